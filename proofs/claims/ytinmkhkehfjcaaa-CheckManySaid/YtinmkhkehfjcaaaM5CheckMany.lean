import Derived.Test.YtinmkhkehfjcaaaM4CheckMany
set_option linter.unusedVariables false
set_option linter.unusedSimpArgs false
set_option maxRecDepth 100000
set_option maxHeartbeats 4000000
namespace Go.Proofs.Ytinmkhkehfjcaaa
open Go.Sh
/-! ### (*podesta/podestaref15.Eye).stmt: function 36 -/
noncomputable def podestaref15_Eye_stmt_F : Go.Sh.Fn := ⟨36, bodyOf Try.f36, 184⟩
def podestaref15_Eye_stmt_raw (g_podestaref15_Eye_one : Eye → Option (Node × Eye)) (g_podestaref15_Eye_part : Eye → Int → Bool → Option (Node × Eye)) (g_podestaref15_Eye_Expr : Eye → Bool → Option (Node × Eye)) (g_podestaref15_Eye_match : Eye → Option (Node × Eye)) (g_podestaref15_Eye_given : Eye → ByteArray → Int → Option (Node × Eye)) (g_podestaref15_Eye_acts : Eye → Option (Node × Eye)) (g_podestaref15_Eye_rest : Eye → Node → Bool → Option (Eye × Node)) (g_podestaref15_Eye_stmt : Eye → Option (Node × Eye)) (g_podestaref15_Eye_block : Eye → Option (Node × Eye)) (x : Eye) : Option (Node × Eye) :=
  (podestaref15_Eye_down_raw x).bind fun v =>
  (bif (!v.1) then
    some (({ Kind := 0, Text := ⟨#[]⟩, Num := 0, Kids := [], At := 0 } : Node), v.2)
  else
    (podestaref15_Eye_At_raw v.2).bind fun v1 =>
    (podestaref15_Eye_See_raw v1.2).bind fun v2 =>
    (bif (v2.1 == (ByteArray.mk #[123])) then
      (g_podestaref15_Eye_block v2.2).bind fun v3 =>
      some (v3.1, ({ v3.2 with Deep := (IntKind.i64.wrap (v3.2.Deep - 1)) } : Eye))
    else
      (podestaref15_Eye_Eat_raw v2.2 (ByteArray.mk #[105, 102])).bind fun v4 =>
      (bif v4.1 then
        (g_podestaref15_Eye_Expr v4.2 true).bind fun v5 =>
        fitO (([] : List Node).length + 1) 64 (
        (g_podestaref15_Eye_block v5.2).bind fun v6 =>
        fitO ((([] : List Node) ++ [v5.1]).length + 1) 64 (
        (podestaref15_Eye_Eat_raw v6.2 (ByteArray.mk #[101, 108, 115, 101])).bind fun v7 =>
        (bif v7.1 then
          (g_podestaref15_Eye_block v7.2).bind fun v8 =>
          fitO (((([] : List Node) ++ [v5.1]) ++ [v6.1]).length + 1) 64 (
          some (({ Kind := 5, Text := ⟨#[]⟩, Num := 0, Kids := (((([] : List Node) ++ [v5.1]) ++ [v6.1]) ++ [v8.1]), At := v1.1 } : Node), ({ v8.2 with Deep := (IntKind.i64.wrap (v8.2.Deep - 1)) } : Eye)))
        else
          some (({ Kind := 5, Text := ⟨#[]⟩, Num := 0, Kids := ((([] : List Node) ++ [v5.1]) ++ [v6.1]), At := v1.1 } : Node), ({ v7.2 with Deep := (IntKind.i64.wrap (v7.2.Deep - 1)) } : Eye)))))
      else
        (podestaref15_Eye_Eat_raw v4.2 (ByteArray.mk #[119, 104, 105, 108, 101])).bind fun v9 =>
        (bif v9.1 then
          (g_podestaref15_Eye_Expr v9.2 true).bind fun v10 =>
          fitO (([] : List Node).length + 1) 64 (
          (g_podestaref15_Eye_block v10.2).bind fun v11 =>
          fitO ((([] : List Node) ++ [v10.1]).length + 1) 64 (
          some (({ Kind := 6, Text := ⟨#[]⟩, Num := 0, Kids := ((([] : List Node) ++ [v10.1]) ++ [v11.1]), At := v1.1 } : Node), ({ v11.2 with Deep := (IntKind.i64.wrap (v11.2.Deep - 1)) } : Eye))))
        else
          (podestaref15_Eye_Eat_raw v9.2 (ByteArray.mk #[97, 98, 111, 114, 116])).bind fun v12 =>
          (bif v12.1 then
            (podestaref15_Eye_Must_raw v12.2 (ByteArray.mk #[59])).bind fun v13 =>
            some (({ Kind := 11, Text := ⟨#[]⟩, Num := 0, Kids := ([] : List Node), At := v1.1 } : Node), ({ v13 with Deep := (IntKind.i64.wrap (v13.Deep - 1)) } : Eye))
          else
            (podestaref15_Eye_Eat_raw v12.2 (ByteArray.mk #[97, 100, 100])).bind fun v14 =>
            (bif v14.1 then
              (g_podestaref15_Eye_Expr v14.2 true).bind fun v15 =>
              fitO (([] : List Node).length + 1) 64 (
              (g_podestaref15_Eye_match v15.2).bind fun v16 =>
              fitO ((([] : List Node) ++ [v15.1]).length + 1) 64 (
              (podestaref15_Eye_Must_raw v16.2 (ByteArray.mk #[112, 114, 105, 111])).bind fun v17 =>
              (g_podestaref15_Eye_Expr v17 true).bind fun v18 =>
              fitO (((([] : List Node) ++ [v15.1]) ++ [v16.1]).length + 1) 64 (
              (g_podestaref15_Eye_given v18.2 (ByteArray.mk #[105, 100, 108, 101]) v1.1).bind fun v19 =>
              fitO ((((([] : List Node) ++ [v15.1]) ++ [v16.1]) ++ [v18.1]).length + 1) 64 (
              (g_podestaref15_Eye_given v19.2 (ByteArray.mk #[104, 97, 114, 100]) v1.1).bind fun v20 =>
              fitO (((((([] : List Node) ++ [v15.1]) ++ [v16.1]) ++ [v18.1]) ++ [v19.1]).length + 1) 64 (
              (podestaref15_Eye_Eat_raw v20.2 (ByteArray.mk #[99, 104, 101, 99, 107])).bind fun v21 =>
              (bif v21.1 then
                (g_podestaref15_Eye_acts v21.2).bind fun v22 =>
                fitO ((((((([] : List Node) ++ [v15.1]) ++ [v16.1]) ++ [v18.1]) ++ [v19.1]) ++ [v20.1]).length + 1) 64 (
                (podestaref15_Eye_Must_raw v22.2 (ByteArray.mk #[59])).bind fun v23 =>
                some (({ Kind := 8, Text := ⟨#[]⟩, Num := 1, Kids := ((((((([] : List Node) ++ [v15.1]) ++ [v16.1]) ++ [v18.1]) ++ [v19.1]) ++ [v20.1]) ++ [v22.1]), At := v1.1 } : Node), ({ v23 with Deep := (IntKind.i64.wrap (v23.Deep - 1)) } : Eye)))
              else
                (g_podestaref15_Eye_acts v21.2).bind fun v24 =>
                fitO ((((((([] : List Node) ++ [v15.1]) ++ [v16.1]) ++ [v18.1]) ++ [v19.1]) ++ [v20.1]).length + 1) 64 (
                (podestaref15_Eye_Must_raw v24.2 (ByteArray.mk #[59])).bind fun v25 =>
                some (({ Kind := 8, Text := ⟨#[]⟩, Num := 0, Kids := ((((((([] : List Node) ++ [v15.1]) ++ [v16.1]) ++ [v18.1]) ++ [v19.1]) ++ [v20.1]) ++ [v24.1]), At := v1.1 } : Node), ({ v25 with Deep := (IntKind.i64.wrap (v25.Deep - 1)) } : Eye)))))))))
            else
              (podestaref15_Eye_Eat_raw v14.2 (ByteArray.mk #[100, 101, 108])).bind fun v26 =>
              (bif v26.1 then
                (g_podestaref15_Eye_rest v26.2 ({ Kind := 9, Text := ⟨#[]⟩, Num := 0, Kids := ([] : List Node), At := v1.1 } : Node) false).bind fun v27 =>
                some (v27.2, ({ v27.1 with Deep := (IntKind.i64.wrap (v27.1.Deep - 1)) } : Eye))
              else
                (podestaref15_Eye_Eat_raw v26.2 (ByteArray.mk #[109, 111, 100])).bind fun v28 =>
                (bif v28.1 then
                  (g_podestaref15_Eye_rest v28.2 ({ Kind := 10, Text := ⟨#[]⟩, Num := 0, Kids := ([] : List Node), At := v1.1 } : Node) true).bind fun v29 =>
                  some (v29.2, ({ v29.1 with Deep := (IntKind.i64.wrap (v29.1.Deep - 1)) } : Eye))
                else
                  (podestaref15_Eye_Name_raw v28.2).bind fun v30 =>
                  (podestaref15_Eye_Must_raw v30.2 (ByteArray.mk #[61])).bind fun v31 =>
                  (g_podestaref15_Eye_Expr v31 true).bind fun v32 =>
                  fitO (([] : List Node).length + 1) 64 (
                  (podestaref15_Eye_Must_raw v32.2 (ByteArray.mk #[59])).bind fun v33 =>
                  some (({ Kind := 4, Text := v30.1, Num := 0, Kids := (([] : List Node) ++ [v32.1]), At := v1.1 } : Node), ({ v33 with Deep := (IntKind.i64.wrap (v33.Deep - 1)) } : Eye)))))))))))
theorem podestaref15_Eye_stmt_walk (g_podestaref15_Eye_one : Eye → Option (Node × Eye)) (H_g_podestaref15_Eye_one : ∀ (x : Eye) (r : Node × Eye) (H : g_podestaref15_Eye_one x = some r), ACalls Try.prog tab.S 58 [.ptr 0 0 none] [.box 44 [.sl 66 (List.map Token.av x.L) false, .sc (.int .i64 x.I), .sc (.int .i64 x.End), .sc (.int .i64 x.Deep), .sc (.int .i64 x.F.E), .sc (.int .i64 x.F.At)]] (Node.ag r.1) [.box 44 [.sl 66 (List.map Token.av r.2.L) false, .sc (.int .i64 r.2.I), .sc (.int .i64 r.2.End), .sc (.int .i64 r.2.Deep), .sc (.int .i64 r.2.F.E), .sc (.int .i64 r.2.F.At)]]) (g_podestaref15_Eye_part : Eye → Int → Bool → Option (Node × Eye)) (H_g_podestaref15_Eye_part : ∀ (x : Eye) (k1 : Int) (stroke : Bool) (r : Node × Eye) (H : g_podestaref15_Eye_part x k1 stroke = some r), ACalls Try.prog tab.S 53 [.ptr 0 0 none, .sc (.int .i64 k1), .sc (.bool stroke)] [.box 44 [.sl 66 (List.map Token.av x.L) false, .sc (.int .i64 x.I), .sc (.int .i64 x.End), .sc (.int .i64 x.Deep), .sc (.int .i64 x.F.E), .sc (.int .i64 x.F.At)]] (Node.ag r.1) [.box 44 [.sl 66 (List.map Token.av r.2.L) false, .sc (.int .i64 r.2.I), .sc (.int .i64 r.2.End), .sc (.int .i64 r.2.Deep), .sc (.int .i64 r.2.F.E), .sc (.int .i64 r.2.F.At)]]) (g_podestaref15_Eye_Expr : Eye → Bool → Option (Node × Eye)) (H_g_podestaref15_Eye_Expr : ∀ (x : Eye) (stroke : Bool) (r : Node × Eye) (H : g_podestaref15_Eye_Expr x stroke = some r), ACalls Try.prog tab.S 43 [.ptr 0 0 none, .sc (.bool stroke)] [.box 44 [.sl 66 (List.map Token.av x.L) false, .sc (.int .i64 x.I), .sc (.int .i64 x.End), .sc (.int .i64 x.Deep), .sc (.int .i64 x.F.E), .sc (.int .i64 x.F.At)]] (Node.ag r.1) [.box 44 [.sl 66 (List.map Token.av r.2.L) false, .sc (.int .i64 r.2.I), .sc (.int .i64 r.2.End), .sc (.int .i64 r.2.Deep), .sc (.int .i64 r.2.F.E), .sc (.int .i64 r.2.F.At)]]) (g_podestaref15_Eye_match : Eye → Option (Node × Eye)) (H_g_podestaref15_Eye_match : ∀ (x : Eye) (r : Node × Eye) (H : g_podestaref15_Eye_match x = some r), ACalls Try.prog tab.S 44 [.ptr 0 0 none] [.box 44 [.sl 66 (List.map Token.av x.L) false, .sc (.int .i64 x.I), .sc (.int .i64 x.End), .sc (.int .i64 x.Deep), .sc (.int .i64 x.F.E), .sc (.int .i64 x.F.At)]] (Node.ag r.1) [.box 44 [.sl 66 (List.map Token.av r.2.L) false, .sc (.int .i64 r.2.I), .sc (.int .i64 r.2.End), .sc (.int .i64 r.2.Deep), .sc (.int .i64 r.2.F.E), .sc (.int .i64 r.2.F.At)]]) (g_podestaref15_Eye_given : Eye → ByteArray → Int → Option (Node × Eye)) (H_g_podestaref15_Eye_given : ∀ (x : Eye) (s : ByteArray) (at_ : Int) (r : Node × Eye) (H : g_podestaref15_Eye_given x s at_ = some r), ACalls Try.prog tab.S 45 [.ptr 0 0 none, .sc (.string s), .sc (.int .i64 at_)] [.box 44 [.sl 66 (List.map Token.av x.L) false, .sc (.int .i64 x.I), .sc (.int .i64 x.End), .sc (.int .i64 x.Deep), .sc (.int .i64 x.F.E), .sc (.int .i64 x.F.At)]] (Node.ag r.1) [.box 44 [.sl 66 (List.map Token.av r.2.L) false, .sc (.int .i64 r.2.I), .sc (.int .i64 r.2.End), .sc (.int .i64 r.2.Deep), .sc (.int .i64 r.2.F.E), .sc (.int .i64 r.2.F.At)]]) (g_podestaref15_Eye_acts : Eye → Option (Node × Eye)) (H_g_podestaref15_Eye_acts : ∀ (x : Eye) (r : Node × Eye) (H : g_podestaref15_Eye_acts x = some r), ACalls Try.prog tab.S 46 [.ptr 0 0 none] [.box 44 [.sl 66 (List.map Token.av x.L) false, .sc (.int .i64 x.I), .sc (.int .i64 x.End), .sc (.int .i64 x.Deep), .sc (.int .i64 x.F.E), .sc (.int .i64 x.F.At)]] (Node.ag r.1) [.box 44 [.sl 66 (List.map Token.av r.2.L) false, .sc (.int .i64 r.2.I), .sc (.int .i64 r.2.End), .sc (.int .i64 r.2.Deep), .sc (.int .i64 r.2.F.E), .sc (.int .i64 r.2.F.At)]]) (g_podestaref15_Eye_rest : Eye → Node → Bool → Option (Eye × Node)) (H_g_podestaref15_Eye_rest : ∀ (x : Eye) (n : Node) (acts : Bool) (r : Eye × Node) (H : g_podestaref15_Eye_rest x n acts = some r), ACalls Try.prog tab.S 47 [.ptr 0 0 none, .ptr 1 0 none, .sc (.bool acts)] [.box 44 [.sl 66 (List.map Token.av x.L) false, .sc (.int .i64 x.I), .sc (.int .i64 x.End), .sc (.int .i64 x.Deep), .sc (.int .i64 x.F.E), .sc (.int .i64 x.F.At)], .box 29 [.sc (.int .i64 n.Kind), .sc (.string n.Text), .sc (.int .i64 n.Num), .own 2 1000000, .sc (.int .i64 n.At)], .row 29 (List.map Node.av n.Kids) 1000000 true] (.tup []) [.box 44 [.sl 66 (List.map Token.av r.1.L) false, .sc (.int .i64 r.1.I), .sc (.int .i64 r.1.End), .sc (.int .i64 r.1.Deep), .sc (.int .i64 r.1.F.E), .sc (.int .i64 r.1.F.At)], .box 29 [.sc (.int .i64 r.2.Kind), .sc (.string r.2.Text), .sc (.int .i64 r.2.Num), .own 2 1000000, .sc (.int .i64 r.2.At)], .row 29 (List.map Node.av r.2.Kids) 1000000 true]) (g_podestaref15_Eye_stmt : Eye → Option (Node × Eye)) (H_g_podestaref15_Eye_stmt : ∀ (x : Eye) (r : Node × Eye) (H : g_podestaref15_Eye_stmt x = some r), ACalls Try.prog tab.S 36 [.ptr 0 0 none] [.box 44 [.sl 66 (List.map Token.av x.L) false, .sc (.int .i64 x.I), .sc (.int .i64 x.End), .sc (.int .i64 x.Deep), .sc (.int .i64 x.F.E), .sc (.int .i64 x.F.At)]] (Node.ag r.1) [.box 44 [.sl 66 (List.map Token.av r.2.L) false, .sc (.int .i64 r.2.I), .sc (.int .i64 r.2.End), .sc (.int .i64 r.2.Deep), .sc (.int .i64 r.2.F.E), .sc (.int .i64 r.2.F.At)]]) (g_podestaref15_Eye_block : Eye → Option (Node × Eye)) (H_g_podestaref15_Eye_block : ∀ (x : Eye) (r : Node × Eye) (H : g_podestaref15_Eye_block x = some r), ACalls Try.prog tab.S 20 [.ptr 0 0 none] [.box 44 [.sl 66 (List.map Token.av x.L) false, .sc (.int .i64 x.I), .sc (.int .i64 x.End), .sc (.int .i64 x.Deep), .sc (.int .i64 x.F.E), .sc (.int .i64 x.F.At)]] (Node.ag r.1) [.box 44 [.sl 66 (List.map Token.av r.2.L) false, .sc (.int .i64 r.2.I), .sc (.int .i64 r.2.End), .sc (.int .i64 r.2.Deep), .sc (.int .i64 r.2.F.E), .sc (.int .i64 r.2.F.At)]]) (x : Eye) (r : Node × Eye) (H : podestaref15_Eye_stmt_raw g_podestaref15_Eye_one g_podestaref15_Eye_part g_podestaref15_Eye_Expr g_podestaref15_Eye_match g_podestaref15_Eye_given g_podestaref15_Eye_acts g_podestaref15_Eye_rest g_podestaref15_Eye_stmt g_podestaref15_Eye_block x = some r) : ACalls Try.prog tab.S 36 [.ptr 0 0 none] [.box 44 [.sl 66 (List.map Token.av x.L) false, .sc (.int .i64 x.I), .sc (.int .i64 x.End), .sc (.int .i64 x.Deep), .sc (.int .i64 x.F.E), .sc (.int .i64 x.F.At)]] (Node.ag r.1) [.box 44 [.sl 66 (List.map Token.av r.2.L) false, .sc (.int .i64 r.2.I), .sc (.int .i64 r.2.End), .sc (.int .i64 r.2.Deep), .sc (.int .i64 r.2.F.E), .sc (.int .i64 r.2.F.At)]] := by
  refine .of_AX podestaref15_Eye_stmt_F Try.func36 fun c0 hc0 => ?_
  rw [podestaref15_Eye_stmt_raw] at H
  refine .sg 4 [0,2] (.rg (.sg 1 [0,2,5] (bndO H fun v hv H => (.ch [0,2,6] [0] (podestaref15_Eye_down_walk x v hv) (.sg 1 [0,2,7] (.dn (.cd (!v.1) H (fun hb H => ?_) (fun hb H => ?_))))))))
  ·
    refine .sg 2 [2] ?_
    obtain rfl := Option.some.inj H
    exact .ret Try.func36 hc0 [0] [(29, false)]
  ·
    refine .sg 2 [0,2] (.rg (.sg 1 [0,2,9] (bndO H fun v1 hv H => (.ch [0,2,10] [0] (podestaref15_Eye_At_walk v.2 v1 hv) (.sg 1 [0,2,3] (.dn (.sg 5 [0,2,3,4] (.adb 2 3 29 (.rg (.sg 1 [0,2,3,4,31] (bndO H fun v2 hv H => (.ch [0,2,3,4,32] [0] (podestaref15_Eye_See_walk v1.2 v2 hv) (.sg 2 [0,2,3,4,30] (.dn (.cd (v2.1 == (ByteArray.mk #[123])) H (fun hb H => ?_) (fun hb H => ?_))))))))))))))))
    ·
      refine .rg (.sg 1 [0,2,4,34] (bndO H fun v3 hv H => (.ch [0,2,4,35] [0] (H_g_podestaref15_Eye_block v2.2 v3 hv) (.sg 1 [0,2,4] (.dn (.sg 5 [2] ?_))))))
      obtain rfl := Option.some.inj H
      exact .ret Try.func36 hc0 [0]
    ·
      refine .sg 1 [0,2,3,4] (.rg (.sg 1 [0,2,3,4,37] (bndO H fun v4 hv H => (.ch [0,2,3,4,38] [0] (podestaref15_Eye_Eat_walk v2.2 (ByteArray.mk #[105, 102]) v4 hv) (.sg 1 [0,2,3,4,36] (.dn (.cd v4.1 H (fun hb H => ?_) (fun hb H => ?_))))))))
      ·
        refine .sg 3 [0,2,4] (bndO H fun v5 hv_v5 H => (fitH H fun hfit2 H => (.rp hc0 [0, 2, 4] [⟨3, [], [], .loud, [(42, .ptr 0 0 none)], [.box 44 [.sl 66 (List.map Token.av v4.2.L) false, .sc (.int .i64 v4.2.I), .sc (.int .i64 v4.2.End), .sc (.int .i64 v4.2.Deep), .sc (.int .i64 v4.2.F.E), .sc (.int .i64 v4.2.F.At)], .box 29 [.sc (.int .i64 0), .sc (.string ⟨#[]⟩), .sc (.int .i64 0), .sl 0 [] true, .sc (.int .i64 0)], .box 29 [.sc (.int .i64 5), .sc (.string ⟨#[]⟩), .sc (.int .i64 0), .own 3 1000000, .sc (.int .i64 v1.1)], .row 29 (List.map Node.av ([] : List Node)) 1000000 true], Node.ag v5.1, [.box 44 [.sl 66 (List.map Token.av v5.2.L) false, .sc (.int .i64 v5.2.I), .sc (.int .i64 v5.2.End), .sc (.int .i64 v5.2.Deep), .sc (.int .i64 v5.2.F.E), .sc (.int .i64 v5.2.F.At)], .box 29 [.sc (.int .i64 0), .sc (.string ⟨#[]⟩), .sc (.int .i64 0), .sl 0 [] true, .sc (.int .i64 0)], .box 29 [.sc (.int .i64 5), .sc (.string ⟨#[]⟩), .sc (.int .i64 0), .own 3 1000000, .sc (.int .i64 v1.1)], .row 29 (List.map Node.av ([] : List Node)) 1000000 true]⟩, ⟨6, [], [], .loud, [(41, .own 3 1000000), (45, .sl 29 [.agg [.sc (.int .i64 0), .sc (.string (ByteArray.mk #[])), .sc (.int .i64 0), .sl 0 [] true, .sc (.int .i64 0)]] true)], [.box 44 [.sl 66 (List.map Token.av v5.2.L) false, .sc (.int .i64 v5.2.I), .sc (.int .i64 v5.2.End), .sc (.int .i64 v5.2.Deep), .sc (.int .i64 v5.2.F.E), .sc (.int .i64 v5.2.F.At)], .box 29 [.sc (.int .i64 0), .sc (.string ⟨#[]⟩), .sc (.int .i64 0), .sl 0 [] true, .sc (.int .i64 0)], .box 29 [.sc (.int .i64 5), .sc (.string ⟨#[]⟩), .sc (.int .i64 0), .own 3 1000000, .sc (.int .i64 v1.1)], .row 29 (List.map Node.av ([] : List Node)) 1000000 true], .own 3 1000001, [.box 44 [.sl 66 (List.map Token.av v5.2.L) false, .sc (.int .i64 v5.2.I), .sc (.int .i64 v5.2.End), .sc (.int .i64 v5.2.Deep), .sc (.int .i64 v5.2.F.E), .sc (.int .i64 v5.2.F.At)], .box 29 [.sc (.int .i64 0), .sc (.string ⟨#[]⟩), .sc (.int .i64 0), .sl 0 [] true, .sc (.int .i64 0)], .box 29 [.sc (.int .i64 5), .sc (.string ⟨#[]⟩), .sc (.int .i64 0), .own 3 1000000, .sc (.int .i64 v1.1)], .row 29 (List.map Node.av ([] : List Node) ++ [.agg [.sc (.int .i64 0), .sc (.string (ByteArray.mk #[])), .sc (.int .i64 0), .sl 0 [] true, .sc (.int .i64 0)]]) 1000001 true]⟩, ⟨7, [], [10], .read, [(44, .sc (.int .i64 (((List.map Node.av ([] : List Node)).length : Nat) : Int))), (46, .own 3 1000001)], [.box 44 [.sl 66 (List.map Token.av v5.2.L) false, .sc (.int .i64 v5.2.I), .sc (.int .i64 v5.2.End), .sc (.int .i64 v5.2.Deep), .sc (.int .i64 v5.2.F.E), .sc (.int .i64 v5.2.F.At)], .box 29 [.sc (.int .i64 0), .sc (.string ⟨#[]⟩), .sc (.int .i64 0), .sl 0 [] true, .sc (.int .i64 0)], .box 29 [.sc (.int .i64 5), .sc (.string ⟨#[]⟩), .sc (.int .i64 0), .own 3 1000000, .sc (.int .i64 v1.1)], .row 29 (List.map Node.av ([] : List Node) ++ [.agg [.sc (.int .i64 0), .sc (.string (ByteArray.mk #[])), .sc (.int .i64 0), .sl 0 [] true, .sc (.int .i64 0)]]) 1000001 true], .el 29 3 1000001 ((List.map Node.av ([] : List Node)).length) 0, [.box 44 [.sl 66 (List.map Token.av v5.2.L) false, .sc (.int .i64 v5.2.I), .sc (.int .i64 v5.2.End), .sc (.int .i64 v5.2.Deep), .sc (.int .i64 v5.2.F.E), .sc (.int .i64 v5.2.F.At)], .box 29 [.sc (.int .i64 0), .sc (.string ⟨#[]⟩), .sc (.int .i64 0), .sl 0 [] true, .sc (.int .i64 0)], .box 29 [.sc (.int .i64 5), .sc (.string ⟨#[]⟩), .sc (.int .i64 0), .own 3 1000000, .sc (.int .i64 v1.1)], .row 29 (List.map Node.av ([] : List Node) ++ [.agg [.sc (.int .i64 0), .sc (.string (ByteArray.mk #[])), .sc (.int .i64 0), .sl 0 [] true, .sc (.int .i64 0)]]) 1000001 true]⟩, ⟨8, [], [10], .loud, [(43, Node.ag v5.1), (47, .el 29 3 1000001 ((List.map Node.av ([] : List Node)).length) 0)], [.box 44 [.sl 66 (List.map Token.av v5.2.L) false, .sc (.int .i64 v5.2.I), .sc (.int .i64 v5.2.End), .sc (.int .i64 v5.2.Deep), .sc (.int .i64 v5.2.F.E), .sc (.int .i64 v5.2.F.At)], .box 29 [.sc (.int .i64 0), .sc (.string ⟨#[]⟩), .sc (.int .i64 0), .sl 0 [] true, .sc (.int .i64 0)], .box 29 [.sc (.int .i64 5), .sc (.string ⟨#[]⟩), .sc (.int .i64 0), .own 3 1000000, .sc (.int .i64 v1.1)], .row 29 (List.map Node.av ([] : List Node) ++ [.agg [.sc (.int .i64 0), .sc (.string (ByteArray.mk #[])), .sc (.int .i64 0), .sl 0 [] true, .sc (.int .i64 0)]]) 1000001 true], .u, [.box 44 [.sl 66 (List.map Token.av v5.2.L) false, .sc (.int .i64 v5.2.I), .sc (.int .i64 v5.2.End), .sc (.int .i64 v5.2.Deep), .sc (.int .i64 v5.2.F.E), .sc (.int .i64 v5.2.F.At)], .box 29 [.sc (.int .i64 0), .sc (.string ⟨#[]⟩), .sc (.int .i64 0), .sl 0 [] true, .sc (.int .i64 0)], .box 29 [.sc (.int .i64 5), .sc (.string ⟨#[]⟩), .sc (.int .i64 0), .own 3 1000000, .sc (.int .i64 v1.1)], .row 29 (List.map Node.av (([] : List Node) ++ [v5.1])) 1000001 true]⟩, ⟨8, [10], [], .loud, [(43, Node.ag v5.1), (47, .el 29 3 1000001 ((List.map Node.av ([] : List Node)).length) 0)], [.box 44 [.sl 66 (List.map Token.av v5.2.L) false, .sc (.int .i64 v5.2.I), .sc (.int .i64 v5.2.End), .sc (.int .i64 v5.2.Deep), .sc (.int .i64 v5.2.F.E), .sc (.int .i64 v5.2.F.At)], .box 29 [.sc (.int .i64 0), .sc (.string ⟨#[]⟩), .sc (.int .i64 0), .sl 0 [] true, .sc (.int .i64 0)], .box 29 [.sc (.int .i64 5), .sc (.string ⟨#[]⟩), .sc (.int .i64 0), .own 3 1000001, .sc (.int .i64 v1.1)], .row 29 (List.map Node.av ([] : List Node) ++ [.agg [.sc (.int .i64 0), .sc (.string (ByteArray.mk #[])), .sc (.int .i64 0), .sl 0 [] true, .sc (.int .i64 0)]]) 1000001 true], .u, [.box 44 [.sl 66 (List.map Token.av v5.2.L) false, .sc (.int .i64 v5.2.I), .sc (.int .i64 v5.2.End), .sc (.int .i64 v5.2.Deep), .sc (.int .i64 v5.2.F.E), .sc (.int .i64 v5.2.F.At)], .box 29 [.sc (.int .i64 0), .sc (.string ⟨#[]⟩), .sc (.int .i64 0), .sl 0 [] true, .sc (.int .i64 0)], .box 29 [.sc (.int .i64 5), .sc (.string ⟨#[]⟩), .sc (.int .i64 0), .own 3 1000001, .sc (.int .i64 v1.1)], .row 29 (List.map Node.av (([] : List Node) ++ [v5.1])) 1000001 true]⟩, ⟨7, [10], [], .read, [(44, .sc (.int .i64 (((List.map Node.av ([] : List Node)).length : Nat) : Int))), (46, .own 3 1000001)], [.box 44 [.sl 66 (List.map Token.av v5.2.L) false, .sc (.int .i64 v5.2.I), .sc (.int .i64 v5.2.End), .sc (.int .i64 v5.2.Deep), .sc (.int .i64 v5.2.F.E), .sc (.int .i64 v5.2.F.At)], .box 29 [.sc (.int .i64 0), .sc (.string ⟨#[]⟩), .sc (.int .i64 0), .sl 0 [] true, .sc (.int .i64 0)], .box 29 [.sc (.int .i64 5), .sc (.string ⟨#[]⟩), .sc (.int .i64 0), .own 3 1000001, .sc (.int .i64 v1.1)], .row 29 (List.map Node.av ([] : List Node) ++ [.agg [.sc (.int .i64 0), .sc (.string (ByteArray.mk #[])), .sc (.int .i64 0), .sl 0 [] true, .sc (.int .i64 0)]]) 1000001 true], .el 29 3 1000001 ((List.map Node.av ([] : List Node)).length) 0, [.box 44 [.sl 66 (List.map Token.av v5.2.L) false, .sc (.int .i64 v5.2.I), .sc (.int .i64 v5.2.End), .sc (.int .i64 v5.2.Deep), .sc (.int .i64 v5.2.F.E), .sc (.int .i64 v5.2.F.At)], .box 29 [.sc (.int .i64 0), .sc (.string ⟨#[]⟩), .sc (.int .i64 0), .sl 0 [] true, .sc (.int .i64 0)], .box 29 [.sc (.int .i64 5), .sc (.string ⟨#[]⟩), .sc (.int .i64 0), .own 3 1000001, .sc (.int .i64 v1.1)], .row 29 (List.map Node.av ([] : List Node) ++ [.agg [.sc (.int .i64 0), .sc (.string (ByteArray.mk #[])), .sc (.int .i64 0), .sl 0 [] true, .sc (.int .i64 0)]]) 1000001 true]⟩] [[0, 1, 2, 3], [0, 1, 2, 3], [0, 1, 2, 3], [0, 1, 2, 3], [0, 1, 2, 3], [0, 1, 2, 3], [0, 1, 2, 3], [0, 1, 2, 3], [0, 1, 2, 3]] (.cons (LQ.ch [0] (H_g_podestaref15_Eye_Expr v4.2 true v5 hv_v5)) (.cons (LQ.apz Node.av ([] : List Node) (.agg [.sc (.int .i64 0), .sc (.string (ByteArray.mk #[])), .sc (.int .i64 0), .sl 0 [] true, .sc (.int .i64 0)]) hfit2) (.cons (LQ.xo (app_idx (List.map Node.av ([] : List Node)) (.agg [.sc (.int .i64 0), .sc (.string (ByteArray.mk #[])), .sc (.int .i64 0), .sl 0 [] true, .sc (.int .i64 0)]))) (.cons (LQ.stz Node.av Node.ag Node.av_eq ([] : List Node) (.agg [.sc (.int .i64 0), .sc (.string (ByteArray.mk #[])), .sc (.int .i64 0), .sl 0 [] true, .sc (.int .i64 0)]) v5.1) (.cons (LQ.stz Node.av Node.ag Node.av_eq ([] : List Node) (.agg [.sc (.int .i64 0), .sc (.string (ByteArray.mk #[])), .sc (.int .i64 0), .sl 0 [] true, .sc (.int .i64 0)]) v5.1) (.cons (LQ.xo (app_idx (List.map Node.av ([] : List Node)) (.agg [.sc (.int .i64 0), .sc (.string (ByteArray.mk #[])), .sc (.int .i64 0), .sl 0 [] true, .sc (.int .i64 0)]))) .nil)))))) (by kernel_rfl) (.sg 1 [0,2,4] (bndO H fun v6 hv_v6 H => (fitH H fun hfit2 H => (.rp hc0 [0, 2, 4] [⟨3, [], [], .loud, [(51, .ptr 0 0 none)], [.box 44 [.sl 66 (List.map Token.av v5.2.L) false, .sc (.int .i64 v5.2.I), .sc (.int .i64 v5.2.End), .sc (.int .i64 v5.2.Deep), .sc (.int .i64 v5.2.F.E), .sc (.int .i64 v5.2.F.At)], .box 29 [.sc (.int .i64 0), .sc (.string ⟨#[]⟩), .sc (.int .i64 0), .sl 0 [] true, .sc (.int .i64 0)], .box 29 [.sc (.int .i64 5), .sc (.string ⟨#[]⟩), .sc (.int .i64 0), .own 3 1000000, .sc (.int .i64 v1.1)], .row 29 (List.map Node.av (([] : List Node) ++ [v5.1])) 1000000 true], Node.ag v6.1, [.box 44 [.sl 66 (List.map Token.av v6.2.L) false, .sc (.int .i64 v6.2.I), .sc (.int .i64 v6.2.End), .sc (.int .i64 v6.2.Deep), .sc (.int .i64 v6.2.F.E), .sc (.int .i64 v6.2.F.At)], .box 29 [.sc (.int .i64 0), .sc (.string ⟨#[]⟩), .sc (.int .i64 0), .sl 0 [] true, .sc (.int .i64 0)], .box 29 [.sc (.int .i64 5), .sc (.string ⟨#[]⟩), .sc (.int .i64 0), .own 3 1000000, .sc (.int .i64 v1.1)], .row 29 (List.map Node.av (([] : List Node) ++ [v5.1])) 1000000 true]⟩, ⟨6, [], [], .loud, [(50, .own 3 1000000), (54, .sl 29 [.agg [.sc (.int .i64 0), .sc (.string (ByteArray.mk #[])), .sc (.int .i64 0), .sl 0 [] true, .sc (.int .i64 0)]] true)], [.box 44 [.sl 66 (List.map Token.av v6.2.L) false, .sc (.int .i64 v6.2.I), .sc (.int .i64 v6.2.End), .sc (.int .i64 v6.2.Deep), .sc (.int .i64 v6.2.F.E), .sc (.int .i64 v6.2.F.At)], .box 29 [.sc (.int .i64 0), .sc (.string ⟨#[]⟩), .sc (.int .i64 0), .sl 0 [] true, .sc (.int .i64 0)], .box 29 [.sc (.int .i64 5), .sc (.string ⟨#[]⟩), .sc (.int .i64 0), .own 3 1000000, .sc (.int .i64 v1.1)], .row 29 (List.map Node.av (([] : List Node) ++ [v5.1])) 1000000 true], .own 3 1000001, [.box 44 [.sl 66 (List.map Token.av v6.2.L) false, .sc (.int .i64 v6.2.I), .sc (.int .i64 v6.2.End), .sc (.int .i64 v6.2.Deep), .sc (.int .i64 v6.2.F.E), .sc (.int .i64 v6.2.F.At)], .box 29 [.sc (.int .i64 0), .sc (.string ⟨#[]⟩), .sc (.int .i64 0), .sl 0 [] true, .sc (.int .i64 0)], .box 29 [.sc (.int .i64 5), .sc (.string ⟨#[]⟩), .sc (.int .i64 0), .own 3 1000000, .sc (.int .i64 v1.1)], .row 29 (List.map Node.av (([] : List Node) ++ [v5.1]) ++ [.agg [.sc (.int .i64 0), .sc (.string (ByteArray.mk #[])), .sc (.int .i64 0), .sl 0 [] true, .sc (.int .i64 0)]]) 1000001 true]⟩, ⟨7, [], [10], .read, [(53, .sc (.int .i64 (((List.map Node.av (([] : List Node) ++ [v5.1])).length : Nat) : Int))), (55, .own 3 1000001)], [.box 44 [.sl 66 (List.map Token.av v6.2.L) false, .sc (.int .i64 v6.2.I), .sc (.int .i64 v6.2.End), .sc (.int .i64 v6.2.Deep), .sc (.int .i64 v6.2.F.E), .sc (.int .i64 v6.2.F.At)], .box 29 [.sc (.int .i64 0), .sc (.string ⟨#[]⟩), .sc (.int .i64 0), .sl 0 [] true, .sc (.int .i64 0)], .box 29 [.sc (.int .i64 5), .sc (.string ⟨#[]⟩), .sc (.int .i64 0), .own 3 1000000, .sc (.int .i64 v1.1)], .row 29 (List.map Node.av (([] : List Node) ++ [v5.1]) ++ [.agg [.sc (.int .i64 0), .sc (.string (ByteArray.mk #[])), .sc (.int .i64 0), .sl 0 [] true, .sc (.int .i64 0)]]) 1000001 true], .el 29 3 1000001 ((List.map Node.av (([] : List Node) ++ [v5.1])).length) 0, [.box 44 [.sl 66 (List.map Token.av v6.2.L) false, .sc (.int .i64 v6.2.I), .sc (.int .i64 v6.2.End), .sc (.int .i64 v6.2.Deep), .sc (.int .i64 v6.2.F.E), .sc (.int .i64 v6.2.F.At)], .box 29 [.sc (.int .i64 0), .sc (.string ⟨#[]⟩), .sc (.int .i64 0), .sl 0 [] true, .sc (.int .i64 0)], .box 29 [.sc (.int .i64 5), .sc (.string ⟨#[]⟩), .sc (.int .i64 0), .own 3 1000000, .sc (.int .i64 v1.1)], .row 29 (List.map Node.av (([] : List Node) ++ [v5.1]) ++ [.agg [.sc (.int .i64 0), .sc (.string (ByteArray.mk #[])), .sc (.int .i64 0), .sl 0 [] true, .sc (.int .i64 0)]]) 1000001 true]⟩, ⟨8, [], [10], .loud, [(52, Node.ag v6.1), (56, .el 29 3 1000001 ((List.map Node.av (([] : List Node) ++ [v5.1])).length) 0)], [.box 44 [.sl 66 (List.map Token.av v6.2.L) false, .sc (.int .i64 v6.2.I), .sc (.int .i64 v6.2.End), .sc (.int .i64 v6.2.Deep), .sc (.int .i64 v6.2.F.E), .sc (.int .i64 v6.2.F.At)], .box 29 [.sc (.int .i64 0), .sc (.string ⟨#[]⟩), .sc (.int .i64 0), .sl 0 [] true, .sc (.int .i64 0)], .box 29 [.sc (.int .i64 5), .sc (.string ⟨#[]⟩), .sc (.int .i64 0), .own 3 1000000, .sc (.int .i64 v1.1)], .row 29 (List.map Node.av (([] : List Node) ++ [v5.1]) ++ [.agg [.sc (.int .i64 0), .sc (.string (ByteArray.mk #[])), .sc (.int .i64 0), .sl 0 [] true, .sc (.int .i64 0)]]) 1000001 true], .u, [.box 44 [.sl 66 (List.map Token.av v6.2.L) false, .sc (.int .i64 v6.2.I), .sc (.int .i64 v6.2.End), .sc (.int .i64 v6.2.Deep), .sc (.int .i64 v6.2.F.E), .sc (.int .i64 v6.2.F.At)], .box 29 [.sc (.int .i64 0), .sc (.string ⟨#[]⟩), .sc (.int .i64 0), .sl 0 [] true, .sc (.int .i64 0)], .box 29 [.sc (.int .i64 5), .sc (.string ⟨#[]⟩), .sc (.int .i64 0), .own 3 1000000, .sc (.int .i64 v1.1)], .row 29 (List.map Node.av ((([] : List Node) ++ [v5.1]) ++ [v6.1])) 1000001 true]⟩, ⟨8, [10], [], .loud, [(52, Node.ag v6.1), (56, .el 29 3 1000001 ((List.map Node.av (([] : List Node) ++ [v5.1])).length) 0)], [.box 44 [.sl 66 (List.map Token.av v6.2.L) false, .sc (.int .i64 v6.2.I), .sc (.int .i64 v6.2.End), .sc (.int .i64 v6.2.Deep), .sc (.int .i64 v6.2.F.E), .sc (.int .i64 v6.2.F.At)], .box 29 [.sc (.int .i64 0), .sc (.string ⟨#[]⟩), .sc (.int .i64 0), .sl 0 [] true, .sc (.int .i64 0)], .box 29 [.sc (.int .i64 5), .sc (.string ⟨#[]⟩), .sc (.int .i64 0), .own 3 1000001, .sc (.int .i64 v1.1)], .row 29 (List.map Node.av (([] : List Node) ++ [v5.1]) ++ [.agg [.sc (.int .i64 0), .sc (.string (ByteArray.mk #[])), .sc (.int .i64 0), .sl 0 [] true, .sc (.int .i64 0)]]) 1000001 true], .u, [.box 44 [.sl 66 (List.map Token.av v6.2.L) false, .sc (.int .i64 v6.2.I), .sc (.int .i64 v6.2.End), .sc (.int .i64 v6.2.Deep), .sc (.int .i64 v6.2.F.E), .sc (.int .i64 v6.2.F.At)], .box 29 [.sc (.int .i64 0), .sc (.string ⟨#[]⟩), .sc (.int .i64 0), .sl 0 [] true, .sc (.int .i64 0)], .box 29 [.sc (.int .i64 5), .sc (.string ⟨#[]⟩), .sc (.int .i64 0), .own 3 1000001, .sc (.int .i64 v1.1)], .row 29 (List.map Node.av ((([] : List Node) ++ [v5.1]) ++ [v6.1])) 1000001 true]⟩, ⟨7, [10], [], .read, [(53, .sc (.int .i64 (((List.map Node.av (([] : List Node) ++ [v5.1])).length : Nat) : Int))), (55, .own 3 1000001)], [.box 44 [.sl 66 (List.map Token.av v6.2.L) false, .sc (.int .i64 v6.2.I), .sc (.int .i64 v6.2.End), .sc (.int .i64 v6.2.Deep), .sc (.int .i64 v6.2.F.E), .sc (.int .i64 v6.2.F.At)], .box 29 [.sc (.int .i64 0), .sc (.string ⟨#[]⟩), .sc (.int .i64 0), .sl 0 [] true, .sc (.int .i64 0)], .box 29 [.sc (.int .i64 5), .sc (.string ⟨#[]⟩), .sc (.int .i64 0), .own 3 1000001, .sc (.int .i64 v1.1)], .row 29 (List.map Node.av (([] : List Node) ++ [v5.1]) ++ [.agg [.sc (.int .i64 0), .sc (.string (ByteArray.mk #[])), .sc (.int .i64 0), .sl 0 [] true, .sc (.int .i64 0)]]) 1000001 true], .el 29 3 1000001 ((List.map Node.av (([] : List Node) ++ [v5.1])).length) 0, [.box 44 [.sl 66 (List.map Token.av v6.2.L) false, .sc (.int .i64 v6.2.I), .sc (.int .i64 v6.2.End), .sc (.int .i64 v6.2.Deep), .sc (.int .i64 v6.2.F.E), .sc (.int .i64 v6.2.F.At)], .box 29 [.sc (.int .i64 0), .sc (.string ⟨#[]⟩), .sc (.int .i64 0), .sl 0 [] true, .sc (.int .i64 0)], .box 29 [.sc (.int .i64 5), .sc (.string ⟨#[]⟩), .sc (.int .i64 0), .own 3 1000001, .sc (.int .i64 v1.1)], .row 29 (List.map Node.av (([] : List Node) ++ [v5.1]) ++ [.agg [.sc (.int .i64 0), .sc (.string (ByteArray.mk #[])), .sc (.int .i64 0), .sl 0 [] true, .sc (.int .i64 0)]]) 1000001 true]⟩] [[0, 1, 2, 3], [0, 1, 2, 3], [0, 1, 2, 3], [0, 1, 2, 3], [0, 1, 2, 3], [0, 1, 2, 3], [0, 1, 2, 3], [0, 1, 2, 3], [0, 1, 2, 3]] (.cons (LQ.ch [0] (H_g_podestaref15_Eye_block v5.2 v6 hv_v6)) (.cons (LQ.apz Node.av (([] : List Node) ++ [v5.1]) (.agg [.sc (.int .i64 0), .sc (.string (ByteArray.mk #[])), .sc (.int .i64 0), .sl 0 [] true, .sc (.int .i64 0)]) hfit2) (.cons (LQ.xo (app_idx (List.map Node.av (([] : List Node) ++ [v5.1])) (.agg [.sc (.int .i64 0), .sc (.string (ByteArray.mk #[])), .sc (.int .i64 0), .sl 0 [] true, .sc (.int .i64 0)]))) (.cons (LQ.stz Node.av Node.ag Node.av_eq (([] : List Node) ++ [v5.1]) (.agg [.sc (.int .i64 0), .sc (.string (ByteArray.mk #[])), .sc (.int .i64 0), .sl 0 [] true, .sc (.int .i64 0)]) v6.1) (.cons (LQ.stz Node.av Node.ag Node.av_eq (([] : List Node) ++ [v5.1]) (.agg [.sc (.int .i64 0), .sc (.string (ByteArray.mk #[])), .sc (.int .i64 0), .sl 0 [] true, .sc (.int .i64 0)]) v6.1) (.cons (LQ.xo (app_idx (List.map Node.av (([] : List Node) ++ [v5.1])) (.agg [.sc (.int .i64 0), .sc (.string (ByteArray.mk #[])), .sc (.int .i64 0), .sl 0 [] true, .sc (.int .i64 0)]))) .nil)))))) (by kernel_rfl) (.sg 1 [0,2,4] (.rg (.sg 1 [0,2,4,58] (bndO H fun v7 hv H => (.ch [0,2,4,59] [0] (podestaref15_Eye_Eat_walk v6.2 (ByteArray.mk #[101, 108, 115, 101]) v7 hv) (.dn (.cd v7.1 H (fun hb H => ?_) (fun hb H => ?_)))))))))))))))
        ·
          refine bndO H fun v8 hv_v8 H => (fitH H fun hfit2 H => (.rp hc0 [0, 2, 4] [⟨3, [], [], .loud, [(62, .ptr 0 0 none)], [.box 44 [.sl 66 (List.map Token.av v7.2.L) false, .sc (.int .i64 v7.2.I), .sc (.int .i64 v7.2.End), .sc (.int .i64 v7.2.Deep), .sc (.int .i64 v7.2.F.E), .sc (.int .i64 v7.2.F.At)], .box 29 [.sc (.int .i64 0), .sc (.string ⟨#[]⟩), .sc (.int .i64 0), .sl 0 [] true, .sc (.int .i64 0)], .box 29 [.sc (.int .i64 5), .sc (.string ⟨#[]⟩), .sc (.int .i64 0), .own 3 1000000, .sc (.int .i64 v1.1)], .row 29 (List.map Node.av ((([] : List Node) ++ [v5.1]) ++ [v6.1])) 1000000 true], Node.ag v8.1, [.box 44 [.sl 66 (List.map Token.av v8.2.L) false, .sc (.int .i64 v8.2.I), .sc (.int .i64 v8.2.End), .sc (.int .i64 v8.2.Deep), .sc (.int .i64 v8.2.F.E), .sc (.int .i64 v8.2.F.At)], .box 29 [.sc (.int .i64 0), .sc (.string ⟨#[]⟩), .sc (.int .i64 0), .sl 0 [] true, .sc (.int .i64 0)], .box 29 [.sc (.int .i64 5), .sc (.string ⟨#[]⟩), .sc (.int .i64 0), .own 3 1000000, .sc (.int .i64 v1.1)], .row 29 (List.map Node.av ((([] : List Node) ++ [v5.1]) ++ [v6.1])) 1000000 true]⟩, ⟨6, [], [], .loud, [(61, .own 3 1000000), (65, .sl 29 [.agg [.sc (.int .i64 0), .sc (.string (ByteArray.mk #[])), .sc (.int .i64 0), .sl 0 [] true, .sc (.int .i64 0)]] true)], [.box 44 [.sl 66 (List.map Token.av v8.2.L) false, .sc (.int .i64 v8.2.I), .sc (.int .i64 v8.2.End), .sc (.int .i64 v8.2.Deep), .sc (.int .i64 v8.2.F.E), .sc (.int .i64 v8.2.F.At)], .box 29 [.sc (.int .i64 0), .sc (.string ⟨#[]⟩), .sc (.int .i64 0), .sl 0 [] true, .sc (.int .i64 0)], .box 29 [.sc (.int .i64 5), .sc (.string ⟨#[]⟩), .sc (.int .i64 0), .own 3 1000000, .sc (.int .i64 v1.1)], .row 29 (List.map Node.av ((([] : List Node) ++ [v5.1]) ++ [v6.1])) 1000000 true], .own 3 1000001, [.box 44 [.sl 66 (List.map Token.av v8.2.L) false, .sc (.int .i64 v8.2.I), .sc (.int .i64 v8.2.End), .sc (.int .i64 v8.2.Deep), .sc (.int .i64 v8.2.F.E), .sc (.int .i64 v8.2.F.At)], .box 29 [.sc (.int .i64 0), .sc (.string ⟨#[]⟩), .sc (.int .i64 0), .sl 0 [] true, .sc (.int .i64 0)], .box 29 [.sc (.int .i64 5), .sc (.string ⟨#[]⟩), .sc (.int .i64 0), .own 3 1000000, .sc (.int .i64 v1.1)], .row 29 (List.map Node.av ((([] : List Node) ++ [v5.1]) ++ [v6.1]) ++ [.agg [.sc (.int .i64 0), .sc (.string (ByteArray.mk #[])), .sc (.int .i64 0), .sl 0 [] true, .sc (.int .i64 0)]]) 1000001 true]⟩, ⟨7, [], [10], .read, [(64, .sc (.int .i64 (((List.map Node.av ((([] : List Node) ++ [v5.1]) ++ [v6.1])).length : Nat) : Int))), (66, .own 3 1000001)], [.box 44 [.sl 66 (List.map Token.av v8.2.L) false, .sc (.int .i64 v8.2.I), .sc (.int .i64 v8.2.End), .sc (.int .i64 v8.2.Deep), .sc (.int .i64 v8.2.F.E), .sc (.int .i64 v8.2.F.At)], .box 29 [.sc (.int .i64 0), .sc (.string ⟨#[]⟩), .sc (.int .i64 0), .sl 0 [] true, .sc (.int .i64 0)], .box 29 [.sc (.int .i64 5), .sc (.string ⟨#[]⟩), .sc (.int .i64 0), .own 3 1000000, .sc (.int .i64 v1.1)], .row 29 (List.map Node.av ((([] : List Node) ++ [v5.1]) ++ [v6.1]) ++ [.agg [.sc (.int .i64 0), .sc (.string (ByteArray.mk #[])), .sc (.int .i64 0), .sl 0 [] true, .sc (.int .i64 0)]]) 1000001 true], .el 29 3 1000001 ((List.map Node.av ((([] : List Node) ++ [v5.1]) ++ [v6.1])).length) 0, [.box 44 [.sl 66 (List.map Token.av v8.2.L) false, .sc (.int .i64 v8.2.I), .sc (.int .i64 v8.2.End), .sc (.int .i64 v8.2.Deep), .sc (.int .i64 v8.2.F.E), .sc (.int .i64 v8.2.F.At)], .box 29 [.sc (.int .i64 0), .sc (.string ⟨#[]⟩), .sc (.int .i64 0), .sl 0 [] true, .sc (.int .i64 0)], .box 29 [.sc (.int .i64 5), .sc (.string ⟨#[]⟩), .sc (.int .i64 0), .own 3 1000000, .sc (.int .i64 v1.1)], .row 29 (List.map Node.av ((([] : List Node) ++ [v5.1]) ++ [v6.1]) ++ [.agg [.sc (.int .i64 0), .sc (.string (ByteArray.mk #[])), .sc (.int .i64 0), .sl 0 [] true, .sc (.int .i64 0)]]) 1000001 true]⟩, ⟨8, [], [10], .loud, [(63, Node.ag v8.1), (67, .el 29 3 1000001 ((List.map Node.av ((([] : List Node) ++ [v5.1]) ++ [v6.1])).length) 0)], [.box 44 [.sl 66 (List.map Token.av v8.2.L) false, .sc (.int .i64 v8.2.I), .sc (.int .i64 v8.2.End), .sc (.int .i64 v8.2.Deep), .sc (.int .i64 v8.2.F.E), .sc (.int .i64 v8.2.F.At)], .box 29 [.sc (.int .i64 0), .sc (.string ⟨#[]⟩), .sc (.int .i64 0), .sl 0 [] true, .sc (.int .i64 0)], .box 29 [.sc (.int .i64 5), .sc (.string ⟨#[]⟩), .sc (.int .i64 0), .own 3 1000000, .sc (.int .i64 v1.1)], .row 29 (List.map Node.av ((([] : List Node) ++ [v5.1]) ++ [v6.1]) ++ [.agg [.sc (.int .i64 0), .sc (.string (ByteArray.mk #[])), .sc (.int .i64 0), .sl 0 [] true, .sc (.int .i64 0)]]) 1000001 true], .u, [.box 44 [.sl 66 (List.map Token.av v8.2.L) false, .sc (.int .i64 v8.2.I), .sc (.int .i64 v8.2.End), .sc (.int .i64 v8.2.Deep), .sc (.int .i64 v8.2.F.E), .sc (.int .i64 v8.2.F.At)], .box 29 [.sc (.int .i64 0), .sc (.string ⟨#[]⟩), .sc (.int .i64 0), .sl 0 [] true, .sc (.int .i64 0)], .box 29 [.sc (.int .i64 5), .sc (.string ⟨#[]⟩), .sc (.int .i64 0), .own 3 1000000, .sc (.int .i64 v1.1)], .row 29 (List.map Node.av (((([] : List Node) ++ [v5.1]) ++ [v6.1]) ++ [v8.1])) 1000001 true]⟩, ⟨8, [10], [], .loud, [(63, Node.ag v8.1), (67, .el 29 3 1000001 ((List.map Node.av ((([] : List Node) ++ [v5.1]) ++ [v6.1])).length) 0)], [.box 44 [.sl 66 (List.map Token.av v8.2.L) false, .sc (.int .i64 v8.2.I), .sc (.int .i64 v8.2.End), .sc (.int .i64 v8.2.Deep), .sc (.int .i64 v8.2.F.E), .sc (.int .i64 v8.2.F.At)], .box 29 [.sc (.int .i64 0), .sc (.string ⟨#[]⟩), .sc (.int .i64 0), .sl 0 [] true, .sc (.int .i64 0)], .box 29 [.sc (.int .i64 5), .sc (.string ⟨#[]⟩), .sc (.int .i64 0), .own 3 1000001, .sc (.int .i64 v1.1)], .row 29 (List.map Node.av ((([] : List Node) ++ [v5.1]) ++ [v6.1]) ++ [.agg [.sc (.int .i64 0), .sc (.string (ByteArray.mk #[])), .sc (.int .i64 0), .sl 0 [] true, .sc (.int .i64 0)]]) 1000001 true], .u, [.box 44 [.sl 66 (List.map Token.av v8.2.L) false, .sc (.int .i64 v8.2.I), .sc (.int .i64 v8.2.End), .sc (.int .i64 v8.2.Deep), .sc (.int .i64 v8.2.F.E), .sc (.int .i64 v8.2.F.At)], .box 29 [.sc (.int .i64 0), .sc (.string ⟨#[]⟩), .sc (.int .i64 0), .sl 0 [] true, .sc (.int .i64 0)], .box 29 [.sc (.int .i64 5), .sc (.string ⟨#[]⟩), .sc (.int .i64 0), .own 3 1000001, .sc (.int .i64 v1.1)], .row 29 (List.map Node.av (((([] : List Node) ++ [v5.1]) ++ [v6.1]) ++ [v8.1])) 1000001 true]⟩, ⟨7, [10], [], .read, [(64, .sc (.int .i64 (((List.map Node.av ((([] : List Node) ++ [v5.1]) ++ [v6.1])).length : Nat) : Int))), (66, .own 3 1000001)], [.box 44 [.sl 66 (List.map Token.av v8.2.L) false, .sc (.int .i64 v8.2.I), .sc (.int .i64 v8.2.End), .sc (.int .i64 v8.2.Deep), .sc (.int .i64 v8.2.F.E), .sc (.int .i64 v8.2.F.At)], .box 29 [.sc (.int .i64 0), .sc (.string ⟨#[]⟩), .sc (.int .i64 0), .sl 0 [] true, .sc (.int .i64 0)], .box 29 [.sc (.int .i64 5), .sc (.string ⟨#[]⟩), .sc (.int .i64 0), .own 3 1000001, .sc (.int .i64 v1.1)], .row 29 (List.map Node.av ((([] : List Node) ++ [v5.1]) ++ [v6.1]) ++ [.agg [.sc (.int .i64 0), .sc (.string (ByteArray.mk #[])), .sc (.int .i64 0), .sl 0 [] true, .sc (.int .i64 0)]]) 1000001 true], .el 29 3 1000001 ((List.map Node.av ((([] : List Node) ++ [v5.1]) ++ [v6.1])).length) 0, [.box 44 [.sl 66 (List.map Token.av v8.2.L) false, .sc (.int .i64 v8.2.I), .sc (.int .i64 v8.2.End), .sc (.int .i64 v8.2.Deep), .sc (.int .i64 v8.2.F.E), .sc (.int .i64 v8.2.F.At)], .box 29 [.sc (.int .i64 0), .sc (.string ⟨#[]⟩), .sc (.int .i64 0), .sl 0 [] true, .sc (.int .i64 0)], .box 29 [.sc (.int .i64 5), .sc (.string ⟨#[]⟩), .sc (.int .i64 0), .own 3 1000001, .sc (.int .i64 v1.1)], .row 29 (List.map Node.av ((([] : List Node) ++ [v5.1]) ++ [v6.1]) ++ [.agg [.sc (.int .i64 0), .sc (.string (ByteArray.mk #[])), .sc (.int .i64 0), .sl 0 [] true, .sc (.int .i64 0)]]) 1000001 true]⟩] [[0, 1, 2, 3], [0, 1, 2, 3], [0, 1, 2, 3], [0, 1, 2, 3], [0, 1, 2, 3], [0, 1, 2, 3], [0, 1, 2, 3], [0, 1, 2, 3], [0, 1, 2, 3]] (.cons (LQ.ch [0] (H_g_podestaref15_Eye_block v7.2 v8 hv_v8)) (.cons (LQ.apz Node.av ((([] : List Node) ++ [v5.1]) ++ [v6.1]) (.agg [.sc (.int .i64 0), .sc (.string (ByteArray.mk #[])), .sc (.int .i64 0), .sl 0 [] true, .sc (.int .i64 0)]) hfit2) (.cons (LQ.xo (app_idx (List.map Node.av ((([] : List Node) ++ [v5.1]) ++ [v6.1])) (.agg [.sc (.int .i64 0), .sc (.string (ByteArray.mk #[])), .sc (.int .i64 0), .sl 0 [] true, .sc (.int .i64 0)]))) (.cons (LQ.stz Node.av Node.ag Node.av_eq ((([] : List Node) ++ [v5.1]) ++ [v6.1]) (.agg [.sc (.int .i64 0), .sc (.string (ByteArray.mk #[])), .sc (.int .i64 0), .sl 0 [] true, .sc (.int .i64 0)]) v8.1) (.cons (LQ.stz Node.av Node.ag Node.av_eq ((([] : List Node) ++ [v5.1]) ++ [v6.1]) (.agg [.sc (.int .i64 0), .sc (.string (ByteArray.mk #[])), .sc (.int .i64 0), .sl 0 [] true, .sc (.int .i64 0)]) v8.1) (.cons (LQ.xo (app_idx (List.map Node.av ((([] : List Node) ++ [v5.1]) ++ [v6.1])) (.agg [.sc (.int .i64 0), .sc (.string (ByteArray.mk #[])), .sc (.int .i64 0), .sl 0 [] true, .sc (.int .i64 0)]))) .nil)))))) (by kernel_rfl) (.sg 5 [2] ?_)))
          obtain rfl := Option.some.inj H
          exact .ret Try.func36 hc0 [0]
        ·
          refine .sg 6 [2] ?_
          obtain rfl := Option.some.inj H
          exact .ret Try.func36 hc0 [0]
      ·
        refine .sg 1 [0,2,3,4] (.rg (.sg 1 [0,2,3,4,70] (bndO H fun v9 hv H => (.ch [0,2,3,4,71] [0] (podestaref15_Eye_Eat_walk v4.2 (ByteArray.mk #[119, 104, 105, 108, 101]) v9 hv) (.sg 1 [0,2,3,4,69] (.dn (.cd v9.1 H (fun hb H => ?_) (fun hb H => ?_))))))))
        ·
          refine .sg 3 [0,2,4] (bndO H fun v10 hv_v10 H => (fitH H fun hfit2 H => (.rp hc0 [0, 2, 4] [⟨3, [], [], .loud, [(75, .ptr 0 0 none)], [.box 44 [.sl 66 (List.map Token.av v9.2.L) false, .sc (.int .i64 v9.2.I), .sc (.int .i64 v9.2.End), .sc (.int .i64 v9.2.Deep), .sc (.int .i64 v9.2.F.E), .sc (.int .i64 v9.2.F.At)], .box 29 [.sc (.int .i64 0), .sc (.string ⟨#[]⟩), .sc (.int .i64 0), .sl 0 [] true, .sc (.int .i64 0)], .box 29 [.sc (.int .i64 6), .sc (.string ⟨#[]⟩), .sc (.int .i64 0), .own 3 1000000, .sc (.int .i64 v1.1)], .row 29 (List.map Node.av ([] : List Node)) 1000000 true], Node.ag v10.1, [.box 44 [.sl 66 (List.map Token.av v10.2.L) false, .sc (.int .i64 v10.2.I), .sc (.int .i64 v10.2.End), .sc (.int .i64 v10.2.Deep), .sc (.int .i64 v10.2.F.E), .sc (.int .i64 v10.2.F.At)], .box 29 [.sc (.int .i64 0), .sc (.string ⟨#[]⟩), .sc (.int .i64 0), .sl 0 [] true, .sc (.int .i64 0)], .box 29 [.sc (.int .i64 6), .sc (.string ⟨#[]⟩), .sc (.int .i64 0), .own 3 1000000, .sc (.int .i64 v1.1)], .row 29 (List.map Node.av ([] : List Node)) 1000000 true]⟩, ⟨6, [], [], .loud, [(74, .own 3 1000000), (78, .sl 29 [.agg [.sc (.int .i64 0), .sc (.string (ByteArray.mk #[])), .sc (.int .i64 0), .sl 0 [] true, .sc (.int .i64 0)]] true)], [.box 44 [.sl 66 (List.map Token.av v10.2.L) false, .sc (.int .i64 v10.2.I), .sc (.int .i64 v10.2.End), .sc (.int .i64 v10.2.Deep), .sc (.int .i64 v10.2.F.E), .sc (.int .i64 v10.2.F.At)], .box 29 [.sc (.int .i64 0), .sc (.string ⟨#[]⟩), .sc (.int .i64 0), .sl 0 [] true, .sc (.int .i64 0)], .box 29 [.sc (.int .i64 6), .sc (.string ⟨#[]⟩), .sc (.int .i64 0), .own 3 1000000, .sc (.int .i64 v1.1)], .row 29 (List.map Node.av ([] : List Node)) 1000000 true], .own 3 1000001, [.box 44 [.sl 66 (List.map Token.av v10.2.L) false, .sc (.int .i64 v10.2.I), .sc (.int .i64 v10.2.End), .sc (.int .i64 v10.2.Deep), .sc (.int .i64 v10.2.F.E), .sc (.int .i64 v10.2.F.At)], .box 29 [.sc (.int .i64 0), .sc (.string ⟨#[]⟩), .sc (.int .i64 0), .sl 0 [] true, .sc (.int .i64 0)], .box 29 [.sc (.int .i64 6), .sc (.string ⟨#[]⟩), .sc (.int .i64 0), .own 3 1000000, .sc (.int .i64 v1.1)], .row 29 (List.map Node.av ([] : List Node) ++ [.agg [.sc (.int .i64 0), .sc (.string (ByteArray.mk #[])), .sc (.int .i64 0), .sl 0 [] true, .sc (.int .i64 0)]]) 1000001 true]⟩, ⟨7, [], [10], .read, [(77, .sc (.int .i64 (((List.map Node.av ([] : List Node)).length : Nat) : Int))), (79, .own 3 1000001)], [.box 44 [.sl 66 (List.map Token.av v10.2.L) false, .sc (.int .i64 v10.2.I), .sc (.int .i64 v10.2.End), .sc (.int .i64 v10.2.Deep), .sc (.int .i64 v10.2.F.E), .sc (.int .i64 v10.2.F.At)], .box 29 [.sc (.int .i64 0), .sc (.string ⟨#[]⟩), .sc (.int .i64 0), .sl 0 [] true, .sc (.int .i64 0)], .box 29 [.sc (.int .i64 6), .sc (.string ⟨#[]⟩), .sc (.int .i64 0), .own 3 1000000, .sc (.int .i64 v1.1)], .row 29 (List.map Node.av ([] : List Node) ++ [.agg [.sc (.int .i64 0), .sc (.string (ByteArray.mk #[])), .sc (.int .i64 0), .sl 0 [] true, .sc (.int .i64 0)]]) 1000001 true], .el 29 3 1000001 ((List.map Node.av ([] : List Node)).length) 0, [.box 44 [.sl 66 (List.map Token.av v10.2.L) false, .sc (.int .i64 v10.2.I), .sc (.int .i64 v10.2.End), .sc (.int .i64 v10.2.Deep), .sc (.int .i64 v10.2.F.E), .sc (.int .i64 v10.2.F.At)], .box 29 [.sc (.int .i64 0), .sc (.string ⟨#[]⟩), .sc (.int .i64 0), .sl 0 [] true, .sc (.int .i64 0)], .box 29 [.sc (.int .i64 6), .sc (.string ⟨#[]⟩), .sc (.int .i64 0), .own 3 1000000, .sc (.int .i64 v1.1)], .row 29 (List.map Node.av ([] : List Node) ++ [.agg [.sc (.int .i64 0), .sc (.string (ByteArray.mk #[])), .sc (.int .i64 0), .sl 0 [] true, .sc (.int .i64 0)]]) 1000001 true]⟩, ⟨8, [], [10], .loud, [(76, Node.ag v10.1), (80, .el 29 3 1000001 ((List.map Node.av ([] : List Node)).length) 0)], [.box 44 [.sl 66 (List.map Token.av v10.2.L) false, .sc (.int .i64 v10.2.I), .sc (.int .i64 v10.2.End), .sc (.int .i64 v10.2.Deep), .sc (.int .i64 v10.2.F.E), .sc (.int .i64 v10.2.F.At)], .box 29 [.sc (.int .i64 0), .sc (.string ⟨#[]⟩), .sc (.int .i64 0), .sl 0 [] true, .sc (.int .i64 0)], .box 29 [.sc (.int .i64 6), .sc (.string ⟨#[]⟩), .sc (.int .i64 0), .own 3 1000000, .sc (.int .i64 v1.1)], .row 29 (List.map Node.av ([] : List Node) ++ [.agg [.sc (.int .i64 0), .sc (.string (ByteArray.mk #[])), .sc (.int .i64 0), .sl 0 [] true, .sc (.int .i64 0)]]) 1000001 true], .u, [.box 44 [.sl 66 (List.map Token.av v10.2.L) false, .sc (.int .i64 v10.2.I), .sc (.int .i64 v10.2.End), .sc (.int .i64 v10.2.Deep), .sc (.int .i64 v10.2.F.E), .sc (.int .i64 v10.2.F.At)], .box 29 [.sc (.int .i64 0), .sc (.string ⟨#[]⟩), .sc (.int .i64 0), .sl 0 [] true, .sc (.int .i64 0)], .box 29 [.sc (.int .i64 6), .sc (.string ⟨#[]⟩), .sc (.int .i64 0), .own 3 1000000, .sc (.int .i64 v1.1)], .row 29 (List.map Node.av (([] : List Node) ++ [v10.1])) 1000001 true]⟩, ⟨8, [10], [], .loud, [(76, Node.ag v10.1), (80, .el 29 3 1000001 ((List.map Node.av ([] : List Node)).length) 0)], [.box 44 [.sl 66 (List.map Token.av v10.2.L) false, .sc (.int .i64 v10.2.I), .sc (.int .i64 v10.2.End), .sc (.int .i64 v10.2.Deep), .sc (.int .i64 v10.2.F.E), .sc (.int .i64 v10.2.F.At)], .box 29 [.sc (.int .i64 0), .sc (.string ⟨#[]⟩), .sc (.int .i64 0), .sl 0 [] true, .sc (.int .i64 0)], .box 29 [.sc (.int .i64 6), .sc (.string ⟨#[]⟩), .sc (.int .i64 0), .own 3 1000001, .sc (.int .i64 v1.1)], .row 29 (List.map Node.av ([] : List Node) ++ [.agg [.sc (.int .i64 0), .sc (.string (ByteArray.mk #[])), .sc (.int .i64 0), .sl 0 [] true, .sc (.int .i64 0)]]) 1000001 true], .u, [.box 44 [.sl 66 (List.map Token.av v10.2.L) false, .sc (.int .i64 v10.2.I), .sc (.int .i64 v10.2.End), .sc (.int .i64 v10.2.Deep), .sc (.int .i64 v10.2.F.E), .sc (.int .i64 v10.2.F.At)], .box 29 [.sc (.int .i64 0), .sc (.string ⟨#[]⟩), .sc (.int .i64 0), .sl 0 [] true, .sc (.int .i64 0)], .box 29 [.sc (.int .i64 6), .sc (.string ⟨#[]⟩), .sc (.int .i64 0), .own 3 1000001, .sc (.int .i64 v1.1)], .row 29 (List.map Node.av (([] : List Node) ++ [v10.1])) 1000001 true]⟩, ⟨7, [10], [], .read, [(77, .sc (.int .i64 (((List.map Node.av ([] : List Node)).length : Nat) : Int))), (79, .own 3 1000001)], [.box 44 [.sl 66 (List.map Token.av v10.2.L) false, .sc (.int .i64 v10.2.I), .sc (.int .i64 v10.2.End), .sc (.int .i64 v10.2.Deep), .sc (.int .i64 v10.2.F.E), .sc (.int .i64 v10.2.F.At)], .box 29 [.sc (.int .i64 0), .sc (.string ⟨#[]⟩), .sc (.int .i64 0), .sl 0 [] true, .sc (.int .i64 0)], .box 29 [.sc (.int .i64 6), .sc (.string ⟨#[]⟩), .sc (.int .i64 0), .own 3 1000001, .sc (.int .i64 v1.1)], .row 29 (List.map Node.av ([] : List Node) ++ [.agg [.sc (.int .i64 0), .sc (.string (ByteArray.mk #[])), .sc (.int .i64 0), .sl 0 [] true, .sc (.int .i64 0)]]) 1000001 true], .el 29 3 1000001 ((List.map Node.av ([] : List Node)).length) 0, [.box 44 [.sl 66 (List.map Token.av v10.2.L) false, .sc (.int .i64 v10.2.I), .sc (.int .i64 v10.2.End), .sc (.int .i64 v10.2.Deep), .sc (.int .i64 v10.2.F.E), .sc (.int .i64 v10.2.F.At)], .box 29 [.sc (.int .i64 0), .sc (.string ⟨#[]⟩), .sc (.int .i64 0), .sl 0 [] true, .sc (.int .i64 0)], .box 29 [.sc (.int .i64 6), .sc (.string ⟨#[]⟩), .sc (.int .i64 0), .own 3 1000001, .sc (.int .i64 v1.1)], .row 29 (List.map Node.av ([] : List Node) ++ [.agg [.sc (.int .i64 0), .sc (.string (ByteArray.mk #[])), .sc (.int .i64 0), .sl 0 [] true, .sc (.int .i64 0)]]) 1000001 true]⟩] [[0, 1, 2, 3], [0, 1, 2, 3], [0, 1, 2, 3], [0, 1, 2, 3], [0, 1, 2, 3], [0, 1, 2, 3], [0, 1, 2, 3], [0, 1, 2, 3], [0, 1, 2, 3]] (.cons (LQ.ch [0] (H_g_podestaref15_Eye_Expr v9.2 true v10 hv_v10)) (.cons (LQ.apz Node.av ([] : List Node) (.agg [.sc (.int .i64 0), .sc (.string (ByteArray.mk #[])), .sc (.int .i64 0), .sl 0 [] true, .sc (.int .i64 0)]) hfit2) (.cons (LQ.xo (app_idx (List.map Node.av ([] : List Node)) (.agg [.sc (.int .i64 0), .sc (.string (ByteArray.mk #[])), .sc (.int .i64 0), .sl 0 [] true, .sc (.int .i64 0)]))) (.cons (LQ.stz Node.av Node.ag Node.av_eq ([] : List Node) (.agg [.sc (.int .i64 0), .sc (.string (ByteArray.mk #[])), .sc (.int .i64 0), .sl 0 [] true, .sc (.int .i64 0)]) v10.1) (.cons (LQ.stz Node.av Node.ag Node.av_eq ([] : List Node) (.agg [.sc (.int .i64 0), .sc (.string (ByteArray.mk #[])), .sc (.int .i64 0), .sl 0 [] true, .sc (.int .i64 0)]) v10.1) (.cons (LQ.xo (app_idx (List.map Node.av ([] : List Node)) (.agg [.sc (.int .i64 0), .sc (.string (ByteArray.mk #[])), .sc (.int .i64 0), .sl 0 [] true, .sc (.int .i64 0)]))) .nil)))))) (by kernel_rfl) (bndO H fun v11 hv_v11 H => (fitH H fun hfit2 H => (.rp hc0 [0, 2, 4] [⟨3, [], [], .loud, [(84, .ptr 0 0 none)], [.box 44 [.sl 66 (List.map Token.av v10.2.L) false, .sc (.int .i64 v10.2.I), .sc (.int .i64 v10.2.End), .sc (.int .i64 v10.2.Deep), .sc (.int .i64 v10.2.F.E), .sc (.int .i64 v10.2.F.At)], .box 29 [.sc (.int .i64 0), .sc (.string ⟨#[]⟩), .sc (.int .i64 0), .sl 0 [] true, .sc (.int .i64 0)], .box 29 [.sc (.int .i64 6), .sc (.string ⟨#[]⟩), .sc (.int .i64 0), .own 3 1000000, .sc (.int .i64 v1.1)], .row 29 (List.map Node.av (([] : List Node) ++ [v10.1])) 1000000 true], Node.ag v11.1, [.box 44 [.sl 66 (List.map Token.av v11.2.L) false, .sc (.int .i64 v11.2.I), .sc (.int .i64 v11.2.End), .sc (.int .i64 v11.2.Deep), .sc (.int .i64 v11.2.F.E), .sc (.int .i64 v11.2.F.At)], .box 29 [.sc (.int .i64 0), .sc (.string ⟨#[]⟩), .sc (.int .i64 0), .sl 0 [] true, .sc (.int .i64 0)], .box 29 [.sc (.int .i64 6), .sc (.string ⟨#[]⟩), .sc (.int .i64 0), .own 3 1000000, .sc (.int .i64 v1.1)], .row 29 (List.map Node.av (([] : List Node) ++ [v10.1])) 1000000 true]⟩, ⟨6, [], [], .loud, [(83, .own 3 1000000), (87, .sl 29 [.agg [.sc (.int .i64 0), .sc (.string (ByteArray.mk #[])), .sc (.int .i64 0), .sl 0 [] true, .sc (.int .i64 0)]] true)], [.box 44 [.sl 66 (List.map Token.av v11.2.L) false, .sc (.int .i64 v11.2.I), .sc (.int .i64 v11.2.End), .sc (.int .i64 v11.2.Deep), .sc (.int .i64 v11.2.F.E), .sc (.int .i64 v11.2.F.At)], .box 29 [.sc (.int .i64 0), .sc (.string ⟨#[]⟩), .sc (.int .i64 0), .sl 0 [] true, .sc (.int .i64 0)], .box 29 [.sc (.int .i64 6), .sc (.string ⟨#[]⟩), .sc (.int .i64 0), .own 3 1000000, .sc (.int .i64 v1.1)], .row 29 (List.map Node.av (([] : List Node) ++ [v10.1])) 1000000 true], .own 3 1000001, [.box 44 [.sl 66 (List.map Token.av v11.2.L) false, .sc (.int .i64 v11.2.I), .sc (.int .i64 v11.2.End), .sc (.int .i64 v11.2.Deep), .sc (.int .i64 v11.2.F.E), .sc (.int .i64 v11.2.F.At)], .box 29 [.sc (.int .i64 0), .sc (.string ⟨#[]⟩), .sc (.int .i64 0), .sl 0 [] true, .sc (.int .i64 0)], .box 29 [.sc (.int .i64 6), .sc (.string ⟨#[]⟩), .sc (.int .i64 0), .own 3 1000000, .sc (.int .i64 v1.1)], .row 29 (List.map Node.av (([] : List Node) ++ [v10.1]) ++ [.agg [.sc (.int .i64 0), .sc (.string (ByteArray.mk #[])), .sc (.int .i64 0), .sl 0 [] true, .sc (.int .i64 0)]]) 1000001 true]⟩, ⟨7, [], [10], .read, [(86, .sc (.int .i64 (((List.map Node.av (([] : List Node) ++ [v10.1])).length : Nat) : Int))), (88, .own 3 1000001)], [.box 44 [.sl 66 (List.map Token.av v11.2.L) false, .sc (.int .i64 v11.2.I), .sc (.int .i64 v11.2.End), .sc (.int .i64 v11.2.Deep), .sc (.int .i64 v11.2.F.E), .sc (.int .i64 v11.2.F.At)], .box 29 [.sc (.int .i64 0), .sc (.string ⟨#[]⟩), .sc (.int .i64 0), .sl 0 [] true, .sc (.int .i64 0)], .box 29 [.sc (.int .i64 6), .sc (.string ⟨#[]⟩), .sc (.int .i64 0), .own 3 1000000, .sc (.int .i64 v1.1)], .row 29 (List.map Node.av (([] : List Node) ++ [v10.1]) ++ [.agg [.sc (.int .i64 0), .sc (.string (ByteArray.mk #[])), .sc (.int .i64 0), .sl 0 [] true, .sc (.int .i64 0)]]) 1000001 true], .el 29 3 1000001 ((List.map Node.av (([] : List Node) ++ [v10.1])).length) 0, [.box 44 [.sl 66 (List.map Token.av v11.2.L) false, .sc (.int .i64 v11.2.I), .sc (.int .i64 v11.2.End), .sc (.int .i64 v11.2.Deep), .sc (.int .i64 v11.2.F.E), .sc (.int .i64 v11.2.F.At)], .box 29 [.sc (.int .i64 0), .sc (.string ⟨#[]⟩), .sc (.int .i64 0), .sl 0 [] true, .sc (.int .i64 0)], .box 29 [.sc (.int .i64 6), .sc (.string ⟨#[]⟩), .sc (.int .i64 0), .own 3 1000000, .sc (.int .i64 v1.1)], .row 29 (List.map Node.av (([] : List Node) ++ [v10.1]) ++ [.agg [.sc (.int .i64 0), .sc (.string (ByteArray.mk #[])), .sc (.int .i64 0), .sl 0 [] true, .sc (.int .i64 0)]]) 1000001 true]⟩, ⟨8, [], [10], .loud, [(85, Node.ag v11.1), (89, .el 29 3 1000001 ((List.map Node.av (([] : List Node) ++ [v10.1])).length) 0)], [.box 44 [.sl 66 (List.map Token.av v11.2.L) false, .sc (.int .i64 v11.2.I), .sc (.int .i64 v11.2.End), .sc (.int .i64 v11.2.Deep), .sc (.int .i64 v11.2.F.E), .sc (.int .i64 v11.2.F.At)], .box 29 [.sc (.int .i64 0), .sc (.string ⟨#[]⟩), .sc (.int .i64 0), .sl 0 [] true, .sc (.int .i64 0)], .box 29 [.sc (.int .i64 6), .sc (.string ⟨#[]⟩), .sc (.int .i64 0), .own 3 1000000, .sc (.int .i64 v1.1)], .row 29 (List.map Node.av (([] : List Node) ++ [v10.1]) ++ [.agg [.sc (.int .i64 0), .sc (.string (ByteArray.mk #[])), .sc (.int .i64 0), .sl 0 [] true, .sc (.int .i64 0)]]) 1000001 true], .u, [.box 44 [.sl 66 (List.map Token.av v11.2.L) false, .sc (.int .i64 v11.2.I), .sc (.int .i64 v11.2.End), .sc (.int .i64 v11.2.Deep), .sc (.int .i64 v11.2.F.E), .sc (.int .i64 v11.2.F.At)], .box 29 [.sc (.int .i64 0), .sc (.string ⟨#[]⟩), .sc (.int .i64 0), .sl 0 [] true, .sc (.int .i64 0)], .box 29 [.sc (.int .i64 6), .sc (.string ⟨#[]⟩), .sc (.int .i64 0), .own 3 1000000, .sc (.int .i64 v1.1)], .row 29 (List.map Node.av ((([] : List Node) ++ [v10.1]) ++ [v11.1])) 1000001 true]⟩, ⟨8, [10], [], .loud, [(85, Node.ag v11.1), (89, .el 29 3 1000001 ((List.map Node.av (([] : List Node) ++ [v10.1])).length) 0)], [.box 44 [.sl 66 (List.map Token.av v11.2.L) false, .sc (.int .i64 v11.2.I), .sc (.int .i64 v11.2.End), .sc (.int .i64 v11.2.Deep), .sc (.int .i64 v11.2.F.E), .sc (.int .i64 v11.2.F.At)], .box 29 [.sc (.int .i64 0), .sc (.string ⟨#[]⟩), .sc (.int .i64 0), .sl 0 [] true, .sc (.int .i64 0)], .box 29 [.sc (.int .i64 6), .sc (.string ⟨#[]⟩), .sc (.int .i64 0), .own 3 1000001, .sc (.int .i64 v1.1)], .row 29 (List.map Node.av (([] : List Node) ++ [v10.1]) ++ [.agg [.sc (.int .i64 0), .sc (.string (ByteArray.mk #[])), .sc (.int .i64 0), .sl 0 [] true, .sc (.int .i64 0)]]) 1000001 true], .u, [.box 44 [.sl 66 (List.map Token.av v11.2.L) false, .sc (.int .i64 v11.2.I), .sc (.int .i64 v11.2.End), .sc (.int .i64 v11.2.Deep), .sc (.int .i64 v11.2.F.E), .sc (.int .i64 v11.2.F.At)], .box 29 [.sc (.int .i64 0), .sc (.string ⟨#[]⟩), .sc (.int .i64 0), .sl 0 [] true, .sc (.int .i64 0)], .box 29 [.sc (.int .i64 6), .sc (.string ⟨#[]⟩), .sc (.int .i64 0), .own 3 1000001, .sc (.int .i64 v1.1)], .row 29 (List.map Node.av ((([] : List Node) ++ [v10.1]) ++ [v11.1])) 1000001 true]⟩, ⟨7, [10], [], .read, [(86, .sc (.int .i64 (((List.map Node.av (([] : List Node) ++ [v10.1])).length : Nat) : Int))), (88, .own 3 1000001)], [.box 44 [.sl 66 (List.map Token.av v11.2.L) false, .sc (.int .i64 v11.2.I), .sc (.int .i64 v11.2.End), .sc (.int .i64 v11.2.Deep), .sc (.int .i64 v11.2.F.E), .sc (.int .i64 v11.2.F.At)], .box 29 [.sc (.int .i64 0), .sc (.string ⟨#[]⟩), .sc (.int .i64 0), .sl 0 [] true, .sc (.int .i64 0)], .box 29 [.sc (.int .i64 6), .sc (.string ⟨#[]⟩), .sc (.int .i64 0), .own 3 1000001, .sc (.int .i64 v1.1)], .row 29 (List.map Node.av (([] : List Node) ++ [v10.1]) ++ [.agg [.sc (.int .i64 0), .sc (.string (ByteArray.mk #[])), .sc (.int .i64 0), .sl 0 [] true, .sc (.int .i64 0)]]) 1000001 true], .el 29 3 1000001 ((List.map Node.av (([] : List Node) ++ [v10.1])).length) 0, [.box 44 [.sl 66 (List.map Token.av v11.2.L) false, .sc (.int .i64 v11.2.I), .sc (.int .i64 v11.2.End), .sc (.int .i64 v11.2.Deep), .sc (.int .i64 v11.2.F.E), .sc (.int .i64 v11.2.F.At)], .box 29 [.sc (.int .i64 0), .sc (.string ⟨#[]⟩), .sc (.int .i64 0), .sl 0 [] true, .sc (.int .i64 0)], .box 29 [.sc (.int .i64 6), .sc (.string ⟨#[]⟩), .sc (.int .i64 0), .own 3 1000001, .sc (.int .i64 v1.1)], .row 29 (List.map Node.av (([] : List Node) ++ [v10.1]) ++ [.agg [.sc (.int .i64 0), .sc (.string (ByteArray.mk #[])), .sc (.int .i64 0), .sl 0 [] true, .sc (.int .i64 0)]]) 1000001 true]⟩] [[0, 1, 2, 3], [0, 1, 2, 3], [0, 1, 2, 3], [0, 1, 2, 3], [0, 1, 2, 3], [0, 1, 2, 3], [0, 1, 2, 3], [0, 1, 2, 3], [0, 1, 2, 3]] (.cons (LQ.ch [0] (H_g_podestaref15_Eye_block v10.2 v11 hv_v11)) (.cons (LQ.apz Node.av (([] : List Node) ++ [v10.1]) (.agg [.sc (.int .i64 0), .sc (.string (ByteArray.mk #[])), .sc (.int .i64 0), .sl 0 [] true, .sc (.int .i64 0)]) hfit2) (.cons (LQ.xo (app_idx (List.map Node.av (([] : List Node) ++ [v10.1])) (.agg [.sc (.int .i64 0), .sc (.string (ByteArray.mk #[])), .sc (.int .i64 0), .sl 0 [] true, .sc (.int .i64 0)]))) (.cons (LQ.stz Node.av Node.ag Node.av_eq (([] : List Node) ++ [v10.1]) (.agg [.sc (.int .i64 0), .sc (.string (ByteArray.mk #[])), .sc (.int .i64 0), .sl 0 [] true, .sc (.int .i64 0)]) v11.1) (.cons (LQ.stz Node.av Node.ag Node.av_eq (([] : List Node) ++ [v10.1]) (.agg [.sc (.int .i64 0), .sc (.string (ByteArray.mk #[])), .sc (.int .i64 0), .sl 0 [] true, .sc (.int .i64 0)]) v11.1) (.cons (LQ.xo (app_idx (List.map Node.av (([] : List Node) ++ [v10.1])) (.agg [.sc (.int .i64 0), .sc (.string (ByteArray.mk #[])), .sc (.int .i64 0), .sl 0 [] true, .sc (.int .i64 0)]))) .nil)))))) (by kernel_rfl) (.sg 5 [2] ?_)))))))
          obtain rfl := Option.some.inj H
          exact .ret Try.func36 hc0 [0]
        ·
          refine .sg 1 [0,2,3,4] (.rg (.sg 1 [0,2,3,4,92] (bndO H fun v12 hv H => (.ch [0,2,3,4,93] [0] (podestaref15_Eye_Eat_walk v9.2 (ByteArray.mk #[97, 98, 111, 114, 116]) v12 hv) (.sg 1 [0,2,3,4,91] (.dn (.cd v12.1 H (fun hb H => ?_) (fun hb H => ?_))))))))
          ·
            refine .sg 2 [0,2,4] (.rg (.sg 1 [0,2,4,95] (bndO H fun v13 hv H => (.ch [0,2,4] [0] (podestaref15_Eye_Must_walk v12.2 (ByteArray.mk #[59]) v13 hv) (.dn (.sg 5 [2] ?_))))))
            obtain rfl := Option.some.inj H
            exact .ret Try.func36 hc0 [0]
          ·
            refine .sg 1 [0,2,3,4] (.rg (.sg 1 [0,2,3,4,98] (bndO H fun v14 hv H => (.ch [0,2,3,4,99] [0] (podestaref15_Eye_Eat_walk v12.2 (ByteArray.mk #[97, 100, 100]) v14 hv) (.sg 1 [0,2,3,4,97] (.dn (.cd v14.1 H (fun hb H => ?_) (fun hb H => ?_))))))))
            ·
              refine .sg 3 [0,2,3,4] (bndO H fun v15 hv_v15 H => (fitH H fun hfit2 H => (.rp hc0 [0, 2, 3, 4] [⟨3, [], [], .loud, [(103, .ptr 0 0 none)], [.box 44 [.sl 66 (List.map Token.av v14.2.L) false, .sc (.int .i64 v14.2.I), .sc (.int .i64 v14.2.End), .sc (.int .i64 v14.2.Deep), .sc (.int .i64 v14.2.F.E), .sc (.int .i64 v14.2.F.At)], .box 29 [.sc (.int .i64 0), .sc (.string ⟨#[]⟩), .sc (.int .i64 0), .sl 0 [] true, .sc (.int .i64 0)], .box 29 [.sc (.int .i64 8), .sc (.string ⟨#[]⟩), .sc (.int .i64 0), .own 3 1000000, .sc (.int .i64 v1.1)], .row 29 (List.map Node.av ([] : List Node)) 1000000 true], Node.ag v15.1, [.box 44 [.sl 66 (List.map Token.av v15.2.L) false, .sc (.int .i64 v15.2.I), .sc (.int .i64 v15.2.End), .sc (.int .i64 v15.2.Deep), .sc (.int .i64 v15.2.F.E), .sc (.int .i64 v15.2.F.At)], .box 29 [.sc (.int .i64 0), .sc (.string ⟨#[]⟩), .sc (.int .i64 0), .sl 0 [] true, .sc (.int .i64 0)], .box 29 [.sc (.int .i64 8), .sc (.string ⟨#[]⟩), .sc (.int .i64 0), .own 3 1000000, .sc (.int .i64 v1.1)], .row 29 (List.map Node.av ([] : List Node)) 1000000 true]⟩, ⟨6, [], [], .loud, [(102, .own 3 1000000), (106, .sl 29 [.agg [.sc (.int .i64 0), .sc (.string (ByteArray.mk #[])), .sc (.int .i64 0), .sl 0 [] true, .sc (.int .i64 0)]] true)], [.box 44 [.sl 66 (List.map Token.av v15.2.L) false, .sc (.int .i64 v15.2.I), .sc (.int .i64 v15.2.End), .sc (.int .i64 v15.2.Deep), .sc (.int .i64 v15.2.F.E), .sc (.int .i64 v15.2.F.At)], .box 29 [.sc (.int .i64 0), .sc (.string ⟨#[]⟩), .sc (.int .i64 0), .sl 0 [] true, .sc (.int .i64 0)], .box 29 [.sc (.int .i64 8), .sc (.string ⟨#[]⟩), .sc (.int .i64 0), .own 3 1000000, .sc (.int .i64 v1.1)], .row 29 (List.map Node.av ([] : List Node)) 1000000 true], .own 3 1000001, [.box 44 [.sl 66 (List.map Token.av v15.2.L) false, .sc (.int .i64 v15.2.I), .sc (.int .i64 v15.2.End), .sc (.int .i64 v15.2.Deep), .sc (.int .i64 v15.2.F.E), .sc (.int .i64 v15.2.F.At)], .box 29 [.sc (.int .i64 0), .sc (.string ⟨#[]⟩), .sc (.int .i64 0), .sl 0 [] true, .sc (.int .i64 0)], .box 29 [.sc (.int .i64 8), .sc (.string ⟨#[]⟩), .sc (.int .i64 0), .own 3 1000000, .sc (.int .i64 v1.1)], .row 29 (List.map Node.av ([] : List Node) ++ [.agg [.sc (.int .i64 0), .sc (.string (ByteArray.mk #[])), .sc (.int .i64 0), .sl 0 [] true, .sc (.int .i64 0)]]) 1000001 true]⟩, ⟨7, [], [10], .read, [(105, .sc (.int .i64 (((List.map Node.av ([] : List Node)).length : Nat) : Int))), (107, .own 3 1000001)], [.box 44 [.sl 66 (List.map Token.av v15.2.L) false, .sc (.int .i64 v15.2.I), .sc (.int .i64 v15.2.End), .sc (.int .i64 v15.2.Deep), .sc (.int .i64 v15.2.F.E), .sc (.int .i64 v15.2.F.At)], .box 29 [.sc (.int .i64 0), .sc (.string ⟨#[]⟩), .sc (.int .i64 0), .sl 0 [] true, .sc (.int .i64 0)], .box 29 [.sc (.int .i64 8), .sc (.string ⟨#[]⟩), .sc (.int .i64 0), .own 3 1000000, .sc (.int .i64 v1.1)], .row 29 (List.map Node.av ([] : List Node) ++ [.agg [.sc (.int .i64 0), .sc (.string (ByteArray.mk #[])), .sc (.int .i64 0), .sl 0 [] true, .sc (.int .i64 0)]]) 1000001 true], .el 29 3 1000001 ((List.map Node.av ([] : List Node)).length) 0, [.box 44 [.sl 66 (List.map Token.av v15.2.L) false, .sc (.int .i64 v15.2.I), .sc (.int .i64 v15.2.End), .sc (.int .i64 v15.2.Deep), .sc (.int .i64 v15.2.F.E), .sc (.int .i64 v15.2.F.At)], .box 29 [.sc (.int .i64 0), .sc (.string ⟨#[]⟩), .sc (.int .i64 0), .sl 0 [] true, .sc (.int .i64 0)], .box 29 [.sc (.int .i64 8), .sc (.string ⟨#[]⟩), .sc (.int .i64 0), .own 3 1000000, .sc (.int .i64 v1.1)], .row 29 (List.map Node.av ([] : List Node) ++ [.agg [.sc (.int .i64 0), .sc (.string (ByteArray.mk #[])), .sc (.int .i64 0), .sl 0 [] true, .sc (.int .i64 0)]]) 1000001 true]⟩, ⟨8, [], [10], .loud, [(104, Node.ag v15.1), (108, .el 29 3 1000001 ((List.map Node.av ([] : List Node)).length) 0)], [.box 44 [.sl 66 (List.map Token.av v15.2.L) false, .sc (.int .i64 v15.2.I), .sc (.int .i64 v15.2.End), .sc (.int .i64 v15.2.Deep), .sc (.int .i64 v15.2.F.E), .sc (.int .i64 v15.2.F.At)], .box 29 [.sc (.int .i64 0), .sc (.string ⟨#[]⟩), .sc (.int .i64 0), .sl 0 [] true, .sc (.int .i64 0)], .box 29 [.sc (.int .i64 8), .sc (.string ⟨#[]⟩), .sc (.int .i64 0), .own 3 1000000, .sc (.int .i64 v1.1)], .row 29 (List.map Node.av ([] : List Node) ++ [.agg [.sc (.int .i64 0), .sc (.string (ByteArray.mk #[])), .sc (.int .i64 0), .sl 0 [] true, .sc (.int .i64 0)]]) 1000001 true], .u, [.box 44 [.sl 66 (List.map Token.av v15.2.L) false, .sc (.int .i64 v15.2.I), .sc (.int .i64 v15.2.End), .sc (.int .i64 v15.2.Deep), .sc (.int .i64 v15.2.F.E), .sc (.int .i64 v15.2.F.At)], .box 29 [.sc (.int .i64 0), .sc (.string ⟨#[]⟩), .sc (.int .i64 0), .sl 0 [] true, .sc (.int .i64 0)], .box 29 [.sc (.int .i64 8), .sc (.string ⟨#[]⟩), .sc (.int .i64 0), .own 3 1000000, .sc (.int .i64 v1.1)], .row 29 (List.map Node.av (([] : List Node) ++ [v15.1])) 1000001 true]⟩, ⟨8, [10], [], .loud, [(104, Node.ag v15.1), (108, .el 29 3 1000001 ((List.map Node.av ([] : List Node)).length) 0)], [.box 44 [.sl 66 (List.map Token.av v15.2.L) false, .sc (.int .i64 v15.2.I), .sc (.int .i64 v15.2.End), .sc (.int .i64 v15.2.Deep), .sc (.int .i64 v15.2.F.E), .sc (.int .i64 v15.2.F.At)], .box 29 [.sc (.int .i64 0), .sc (.string ⟨#[]⟩), .sc (.int .i64 0), .sl 0 [] true, .sc (.int .i64 0)], .box 29 [.sc (.int .i64 8), .sc (.string ⟨#[]⟩), .sc (.int .i64 0), .own 3 1000001, .sc (.int .i64 v1.1)], .row 29 (List.map Node.av ([] : List Node) ++ [.agg [.sc (.int .i64 0), .sc (.string (ByteArray.mk #[])), .sc (.int .i64 0), .sl 0 [] true, .sc (.int .i64 0)]]) 1000001 true], .u, [.box 44 [.sl 66 (List.map Token.av v15.2.L) false, .sc (.int .i64 v15.2.I), .sc (.int .i64 v15.2.End), .sc (.int .i64 v15.2.Deep), .sc (.int .i64 v15.2.F.E), .sc (.int .i64 v15.2.F.At)], .box 29 [.sc (.int .i64 0), .sc (.string ⟨#[]⟩), .sc (.int .i64 0), .sl 0 [] true, .sc (.int .i64 0)], .box 29 [.sc (.int .i64 8), .sc (.string ⟨#[]⟩), .sc (.int .i64 0), .own 3 1000001, .sc (.int .i64 v1.1)], .row 29 (List.map Node.av (([] : List Node) ++ [v15.1])) 1000001 true]⟩, ⟨7, [10], [], .read, [(105, .sc (.int .i64 (((List.map Node.av ([] : List Node)).length : Nat) : Int))), (107, .own 3 1000001)], [.box 44 [.sl 66 (List.map Token.av v15.2.L) false, .sc (.int .i64 v15.2.I), .sc (.int .i64 v15.2.End), .sc (.int .i64 v15.2.Deep), .sc (.int .i64 v15.2.F.E), .sc (.int .i64 v15.2.F.At)], .box 29 [.sc (.int .i64 0), .sc (.string ⟨#[]⟩), .sc (.int .i64 0), .sl 0 [] true, .sc (.int .i64 0)], .box 29 [.sc (.int .i64 8), .sc (.string ⟨#[]⟩), .sc (.int .i64 0), .own 3 1000001, .sc (.int .i64 v1.1)], .row 29 (List.map Node.av ([] : List Node) ++ [.agg [.sc (.int .i64 0), .sc (.string (ByteArray.mk #[])), .sc (.int .i64 0), .sl 0 [] true, .sc (.int .i64 0)]]) 1000001 true], .el 29 3 1000001 ((List.map Node.av ([] : List Node)).length) 0, [.box 44 [.sl 66 (List.map Token.av v15.2.L) false, .sc (.int .i64 v15.2.I), .sc (.int .i64 v15.2.End), .sc (.int .i64 v15.2.Deep), .sc (.int .i64 v15.2.F.E), .sc (.int .i64 v15.2.F.At)], .box 29 [.sc (.int .i64 0), .sc (.string ⟨#[]⟩), .sc (.int .i64 0), .sl 0 [] true, .sc (.int .i64 0)], .box 29 [.sc (.int .i64 8), .sc (.string ⟨#[]⟩), .sc (.int .i64 0), .own 3 1000001, .sc (.int .i64 v1.1)], .row 29 (List.map Node.av ([] : List Node) ++ [.agg [.sc (.int .i64 0), .sc (.string (ByteArray.mk #[])), .sc (.int .i64 0), .sl 0 [] true, .sc (.int .i64 0)]]) 1000001 true]⟩] [[0, 1, 2, 3], [0, 1, 2, 3], [0, 1, 2, 3], [0, 1, 2, 3], [0, 1, 2, 3], [0, 1, 2, 3], [0, 1, 2, 3], [0, 1, 2, 3], [0, 1, 2, 3]] (.cons (LQ.ch [0] (H_g_podestaref15_Eye_Expr v14.2 true v15 hv_v15)) (.cons (LQ.apz Node.av ([] : List Node) (.agg [.sc (.int .i64 0), .sc (.string (ByteArray.mk #[])), .sc (.int .i64 0), .sl 0 [] true, .sc (.int .i64 0)]) hfit2) (.cons (LQ.xo (app_idx (List.map Node.av ([] : List Node)) (.agg [.sc (.int .i64 0), .sc (.string (ByteArray.mk #[])), .sc (.int .i64 0), .sl 0 [] true, .sc (.int .i64 0)]))) (.cons (LQ.stz Node.av Node.ag Node.av_eq ([] : List Node) (.agg [.sc (.int .i64 0), .sc (.string (ByteArray.mk #[])), .sc (.int .i64 0), .sl 0 [] true, .sc (.int .i64 0)]) v15.1) (.cons (LQ.stz Node.av Node.ag Node.av_eq ([] : List Node) (.agg [.sc (.int .i64 0), .sc (.string (ByteArray.mk #[])), .sc (.int .i64 0), .sl 0 [] true, .sc (.int .i64 0)]) v15.1) (.cons (LQ.xo (app_idx (List.map Node.av ([] : List Node)) (.agg [.sc (.int .i64 0), .sc (.string (ByteArray.mk #[])), .sc (.int .i64 0), .sl 0 [] true, .sc (.int .i64 0)]))) .nil)))))) (by kernel_rfl) (.sg 1 [0,2,3,4] (bndO H fun v16 hv_v16 H => (fitH H fun hfit2 H => (.rp hc0 [0, 2, 3, 4] [⟨3, [], [], .loud, [(112, .ptr 0 0 none)], [.box 44 [.sl 66 (List.map Token.av v15.2.L) false, .sc (.int .i64 v15.2.I), .sc (.int .i64 v15.2.End), .sc (.int .i64 v15.2.Deep), .sc (.int .i64 v15.2.F.E), .sc (.int .i64 v15.2.F.At)], .box 29 [.sc (.int .i64 0), .sc (.string ⟨#[]⟩), .sc (.int .i64 0), .sl 0 [] true, .sc (.int .i64 0)], .box 29 [.sc (.int .i64 8), .sc (.string ⟨#[]⟩), .sc (.int .i64 0), .own 3 1000000, .sc (.int .i64 v1.1)], .row 29 (List.map Node.av (([] : List Node) ++ [v15.1])) 1000000 true], Node.ag v16.1, [.box 44 [.sl 66 (List.map Token.av v16.2.L) false, .sc (.int .i64 v16.2.I), .sc (.int .i64 v16.2.End), .sc (.int .i64 v16.2.Deep), .sc (.int .i64 v16.2.F.E), .sc (.int .i64 v16.2.F.At)], .box 29 [.sc (.int .i64 0), .sc (.string ⟨#[]⟩), .sc (.int .i64 0), .sl 0 [] true, .sc (.int .i64 0)], .box 29 [.sc (.int .i64 8), .sc (.string ⟨#[]⟩), .sc (.int .i64 0), .own 3 1000000, .sc (.int .i64 v1.1)], .row 29 (List.map Node.av (([] : List Node) ++ [v15.1])) 1000000 true]⟩, ⟨6, [], [], .loud, [(111, .own 3 1000000), (115, .sl 29 [.agg [.sc (.int .i64 0), .sc (.string (ByteArray.mk #[])), .sc (.int .i64 0), .sl 0 [] true, .sc (.int .i64 0)]] true)], [.box 44 [.sl 66 (List.map Token.av v16.2.L) false, .sc (.int .i64 v16.2.I), .sc (.int .i64 v16.2.End), .sc (.int .i64 v16.2.Deep), .sc (.int .i64 v16.2.F.E), .sc (.int .i64 v16.2.F.At)], .box 29 [.sc (.int .i64 0), .sc (.string ⟨#[]⟩), .sc (.int .i64 0), .sl 0 [] true, .sc (.int .i64 0)], .box 29 [.sc (.int .i64 8), .sc (.string ⟨#[]⟩), .sc (.int .i64 0), .own 3 1000000, .sc (.int .i64 v1.1)], .row 29 (List.map Node.av (([] : List Node) ++ [v15.1])) 1000000 true], .own 3 1000001, [.box 44 [.sl 66 (List.map Token.av v16.2.L) false, .sc (.int .i64 v16.2.I), .sc (.int .i64 v16.2.End), .sc (.int .i64 v16.2.Deep), .sc (.int .i64 v16.2.F.E), .sc (.int .i64 v16.2.F.At)], .box 29 [.sc (.int .i64 0), .sc (.string ⟨#[]⟩), .sc (.int .i64 0), .sl 0 [] true, .sc (.int .i64 0)], .box 29 [.sc (.int .i64 8), .sc (.string ⟨#[]⟩), .sc (.int .i64 0), .own 3 1000000, .sc (.int .i64 v1.1)], .row 29 (List.map Node.av (([] : List Node) ++ [v15.1]) ++ [.agg [.sc (.int .i64 0), .sc (.string (ByteArray.mk #[])), .sc (.int .i64 0), .sl 0 [] true, .sc (.int .i64 0)]]) 1000001 true]⟩, ⟨7, [], [10], .read, [(114, .sc (.int .i64 (((List.map Node.av (([] : List Node) ++ [v15.1])).length : Nat) : Int))), (116, .own 3 1000001)], [.box 44 [.sl 66 (List.map Token.av v16.2.L) false, .sc (.int .i64 v16.2.I), .sc (.int .i64 v16.2.End), .sc (.int .i64 v16.2.Deep), .sc (.int .i64 v16.2.F.E), .sc (.int .i64 v16.2.F.At)], .box 29 [.sc (.int .i64 0), .sc (.string ⟨#[]⟩), .sc (.int .i64 0), .sl 0 [] true, .sc (.int .i64 0)], .box 29 [.sc (.int .i64 8), .sc (.string ⟨#[]⟩), .sc (.int .i64 0), .own 3 1000000, .sc (.int .i64 v1.1)], .row 29 (List.map Node.av (([] : List Node) ++ [v15.1]) ++ [.agg [.sc (.int .i64 0), .sc (.string (ByteArray.mk #[])), .sc (.int .i64 0), .sl 0 [] true, .sc (.int .i64 0)]]) 1000001 true], .el 29 3 1000001 ((List.map Node.av (([] : List Node) ++ [v15.1])).length) 0, [.box 44 [.sl 66 (List.map Token.av v16.2.L) false, .sc (.int .i64 v16.2.I), .sc (.int .i64 v16.2.End), .sc (.int .i64 v16.2.Deep), .sc (.int .i64 v16.2.F.E), .sc (.int .i64 v16.2.F.At)], .box 29 [.sc (.int .i64 0), .sc (.string ⟨#[]⟩), .sc (.int .i64 0), .sl 0 [] true, .sc (.int .i64 0)], .box 29 [.sc (.int .i64 8), .sc (.string ⟨#[]⟩), .sc (.int .i64 0), .own 3 1000000, .sc (.int .i64 v1.1)], .row 29 (List.map Node.av (([] : List Node) ++ [v15.1]) ++ [.agg [.sc (.int .i64 0), .sc (.string (ByteArray.mk #[])), .sc (.int .i64 0), .sl 0 [] true, .sc (.int .i64 0)]]) 1000001 true]⟩, ⟨8, [], [10], .loud, [(113, Node.ag v16.1), (117, .el 29 3 1000001 ((List.map Node.av (([] : List Node) ++ [v15.1])).length) 0)], [.box 44 [.sl 66 (List.map Token.av v16.2.L) false, .sc (.int .i64 v16.2.I), .sc (.int .i64 v16.2.End), .sc (.int .i64 v16.2.Deep), .sc (.int .i64 v16.2.F.E), .sc (.int .i64 v16.2.F.At)], .box 29 [.sc (.int .i64 0), .sc (.string ⟨#[]⟩), .sc (.int .i64 0), .sl 0 [] true, .sc (.int .i64 0)], .box 29 [.sc (.int .i64 8), .sc (.string ⟨#[]⟩), .sc (.int .i64 0), .own 3 1000000, .sc (.int .i64 v1.1)], .row 29 (List.map Node.av (([] : List Node) ++ [v15.1]) ++ [.agg [.sc (.int .i64 0), .sc (.string (ByteArray.mk #[])), .sc (.int .i64 0), .sl 0 [] true, .sc (.int .i64 0)]]) 1000001 true], .u, [.box 44 [.sl 66 (List.map Token.av v16.2.L) false, .sc (.int .i64 v16.2.I), .sc (.int .i64 v16.2.End), .sc (.int .i64 v16.2.Deep), .sc (.int .i64 v16.2.F.E), .sc (.int .i64 v16.2.F.At)], .box 29 [.sc (.int .i64 0), .sc (.string ⟨#[]⟩), .sc (.int .i64 0), .sl 0 [] true, .sc (.int .i64 0)], .box 29 [.sc (.int .i64 8), .sc (.string ⟨#[]⟩), .sc (.int .i64 0), .own 3 1000000, .sc (.int .i64 v1.1)], .row 29 (List.map Node.av ((([] : List Node) ++ [v15.1]) ++ [v16.1])) 1000001 true]⟩, ⟨8, [10], [], .loud, [(113, Node.ag v16.1), (117, .el 29 3 1000001 ((List.map Node.av (([] : List Node) ++ [v15.1])).length) 0)], [.box 44 [.sl 66 (List.map Token.av v16.2.L) false, .sc (.int .i64 v16.2.I), .sc (.int .i64 v16.2.End), .sc (.int .i64 v16.2.Deep), .sc (.int .i64 v16.2.F.E), .sc (.int .i64 v16.2.F.At)], .box 29 [.sc (.int .i64 0), .sc (.string ⟨#[]⟩), .sc (.int .i64 0), .sl 0 [] true, .sc (.int .i64 0)], .box 29 [.sc (.int .i64 8), .sc (.string ⟨#[]⟩), .sc (.int .i64 0), .own 3 1000001, .sc (.int .i64 v1.1)], .row 29 (List.map Node.av (([] : List Node) ++ [v15.1]) ++ [.agg [.sc (.int .i64 0), .sc (.string (ByteArray.mk #[])), .sc (.int .i64 0), .sl 0 [] true, .sc (.int .i64 0)]]) 1000001 true], .u, [.box 44 [.sl 66 (List.map Token.av v16.2.L) false, .sc (.int .i64 v16.2.I), .sc (.int .i64 v16.2.End), .sc (.int .i64 v16.2.Deep), .sc (.int .i64 v16.2.F.E), .sc (.int .i64 v16.2.F.At)], .box 29 [.sc (.int .i64 0), .sc (.string ⟨#[]⟩), .sc (.int .i64 0), .sl 0 [] true, .sc (.int .i64 0)], .box 29 [.sc (.int .i64 8), .sc (.string ⟨#[]⟩), .sc (.int .i64 0), .own 3 1000001, .sc (.int .i64 v1.1)], .row 29 (List.map Node.av ((([] : List Node) ++ [v15.1]) ++ [v16.1])) 1000001 true]⟩, ⟨7, [10], [], .read, [(114, .sc (.int .i64 (((List.map Node.av (([] : List Node) ++ [v15.1])).length : Nat) : Int))), (116, .own 3 1000001)], [.box 44 [.sl 66 (List.map Token.av v16.2.L) false, .sc (.int .i64 v16.2.I), .sc (.int .i64 v16.2.End), .sc (.int .i64 v16.2.Deep), .sc (.int .i64 v16.2.F.E), .sc (.int .i64 v16.2.F.At)], .box 29 [.sc (.int .i64 0), .sc (.string ⟨#[]⟩), .sc (.int .i64 0), .sl 0 [] true, .sc (.int .i64 0)], .box 29 [.sc (.int .i64 8), .sc (.string ⟨#[]⟩), .sc (.int .i64 0), .own 3 1000001, .sc (.int .i64 v1.1)], .row 29 (List.map Node.av (([] : List Node) ++ [v15.1]) ++ [.agg [.sc (.int .i64 0), .sc (.string (ByteArray.mk #[])), .sc (.int .i64 0), .sl 0 [] true, .sc (.int .i64 0)]]) 1000001 true], .el 29 3 1000001 ((List.map Node.av (([] : List Node) ++ [v15.1])).length) 0, [.box 44 [.sl 66 (List.map Token.av v16.2.L) false, .sc (.int .i64 v16.2.I), .sc (.int .i64 v16.2.End), .sc (.int .i64 v16.2.Deep), .sc (.int .i64 v16.2.F.E), .sc (.int .i64 v16.2.F.At)], .box 29 [.sc (.int .i64 0), .sc (.string ⟨#[]⟩), .sc (.int .i64 0), .sl 0 [] true, .sc (.int .i64 0)], .box 29 [.sc (.int .i64 8), .sc (.string ⟨#[]⟩), .sc (.int .i64 0), .own 3 1000001, .sc (.int .i64 v1.1)], .row 29 (List.map Node.av (([] : List Node) ++ [v15.1]) ++ [.agg [.sc (.int .i64 0), .sc (.string (ByteArray.mk #[])), .sc (.int .i64 0), .sl 0 [] true, .sc (.int .i64 0)]]) 1000001 true]⟩] [[0, 1, 2, 3], [0, 1, 2, 3], [0, 1, 2, 3], [0, 1, 2, 3], [0, 1, 2, 3], [0, 1, 2, 3], [0, 1, 2, 3], [0, 1, 2, 3], [0, 1, 2, 3]] (.cons (LQ.ch [0] (H_g_podestaref15_Eye_match v15.2 v16 hv_v16)) (.cons (LQ.apz Node.av (([] : List Node) ++ [v15.1]) (.agg [.sc (.int .i64 0), .sc (.string (ByteArray.mk #[])), .sc (.int .i64 0), .sl 0 [] true, .sc (.int .i64 0)]) hfit2) (.cons (LQ.xo (app_idx (List.map Node.av (([] : List Node) ++ [v15.1])) (.agg [.sc (.int .i64 0), .sc (.string (ByteArray.mk #[])), .sc (.int .i64 0), .sl 0 [] true, .sc (.int .i64 0)]))) (.cons (LQ.stz Node.av Node.ag Node.av_eq (([] : List Node) ++ [v15.1]) (.agg [.sc (.int .i64 0), .sc (.string (ByteArray.mk #[])), .sc (.int .i64 0), .sl 0 [] true, .sc (.int .i64 0)]) v16.1) (.cons (LQ.stz Node.av Node.ag Node.av_eq (([] : List Node) ++ [v15.1]) (.agg [.sc (.int .i64 0), .sc (.string (ByteArray.mk #[])), .sc (.int .i64 0), .sl 0 [] true, .sc (.int .i64 0)]) v16.1) (.cons (LQ.xo (app_idx (List.map Node.av (([] : List Node) ++ [v15.1])) (.agg [.sc (.int .i64 0), .sc (.string (ByteArray.mk #[])), .sc (.int .i64 0), .sl 0 [] true, .sc (.int .i64 0)]))) .nil)))))) (by kernel_rfl) (.sg 1 [0,2,3,4] (.rg (.sg 1 [0,2,3,4,119] (bndO H fun v17 hv H => (.ch [0,2,3,4] [0] (podestaref15_Eye_Must_walk v16.2 (ByteArray.mk #[112, 114, 105, 111]) v17 hv) (.dn (.sg 1 [0,2,3,4] (bndO H fun v18 hv_v18 H => (fitH H fun hfit2 H => (.rp hc0 [0, 2, 3, 4] [⟨3, [], [], .loud, [(123, .ptr 0 0 none)], [.box 44 [.sl 66 (List.map Token.av v17.L) false, .sc (.int .i64 v17.I), .sc (.int .i64 v17.End), .sc (.int .i64 v17.Deep), .sc (.int .i64 v17.F.E), .sc (.int .i64 v17.F.At)], .box 29 [.sc (.int .i64 0), .sc (.string ⟨#[]⟩), .sc (.int .i64 0), .sl 0 [] true, .sc (.int .i64 0)], .box 29 [.sc (.int .i64 8), .sc (.string ⟨#[]⟩), .sc (.int .i64 0), .own 3 1000000, .sc (.int .i64 v1.1)], .row 29 (List.map Node.av ((([] : List Node) ++ [v15.1]) ++ [v16.1])) 1000000 true], Node.ag v18.1, [.box 44 [.sl 66 (List.map Token.av v18.2.L) false, .sc (.int .i64 v18.2.I), .sc (.int .i64 v18.2.End), .sc (.int .i64 v18.2.Deep), .sc (.int .i64 v18.2.F.E), .sc (.int .i64 v18.2.F.At)], .box 29 [.sc (.int .i64 0), .sc (.string ⟨#[]⟩), .sc (.int .i64 0), .sl 0 [] true, .sc (.int .i64 0)], .box 29 [.sc (.int .i64 8), .sc (.string ⟨#[]⟩), .sc (.int .i64 0), .own 3 1000000, .sc (.int .i64 v1.1)], .row 29 (List.map Node.av ((([] : List Node) ++ [v15.1]) ++ [v16.1])) 1000000 true]⟩, ⟨6, [], [], .loud, [(122, .own 3 1000000), (126, .sl 29 [.agg [.sc (.int .i64 0), .sc (.string (ByteArray.mk #[])), .sc (.int .i64 0), .sl 0 [] true, .sc (.int .i64 0)]] true)], [.box 44 [.sl 66 (List.map Token.av v18.2.L) false, .sc (.int .i64 v18.2.I), .sc (.int .i64 v18.2.End), .sc (.int .i64 v18.2.Deep), .sc (.int .i64 v18.2.F.E), .sc (.int .i64 v18.2.F.At)], .box 29 [.sc (.int .i64 0), .sc (.string ⟨#[]⟩), .sc (.int .i64 0), .sl 0 [] true, .sc (.int .i64 0)], .box 29 [.sc (.int .i64 8), .sc (.string ⟨#[]⟩), .sc (.int .i64 0), .own 3 1000000, .sc (.int .i64 v1.1)], .row 29 (List.map Node.av ((([] : List Node) ++ [v15.1]) ++ [v16.1])) 1000000 true], .own 3 1000001, [.box 44 [.sl 66 (List.map Token.av v18.2.L) false, .sc (.int .i64 v18.2.I), .sc (.int .i64 v18.2.End), .sc (.int .i64 v18.2.Deep), .sc (.int .i64 v18.2.F.E), .sc (.int .i64 v18.2.F.At)], .box 29 [.sc (.int .i64 0), .sc (.string ⟨#[]⟩), .sc (.int .i64 0), .sl 0 [] true, .sc (.int .i64 0)], .box 29 [.sc (.int .i64 8), .sc (.string ⟨#[]⟩), .sc (.int .i64 0), .own 3 1000000, .sc (.int .i64 v1.1)], .row 29 (List.map Node.av ((([] : List Node) ++ [v15.1]) ++ [v16.1]) ++ [.agg [.sc (.int .i64 0), .sc (.string (ByteArray.mk #[])), .sc (.int .i64 0), .sl 0 [] true, .sc (.int .i64 0)]]) 1000001 true]⟩, ⟨7, [], [10], .read, [(125, .sc (.int .i64 (((List.map Node.av ((([] : List Node) ++ [v15.1]) ++ [v16.1])).length : Nat) : Int))), (127, .own 3 1000001)], [.box 44 [.sl 66 (List.map Token.av v18.2.L) false, .sc (.int .i64 v18.2.I), .sc (.int .i64 v18.2.End), .sc (.int .i64 v18.2.Deep), .sc (.int .i64 v18.2.F.E), .sc (.int .i64 v18.2.F.At)], .box 29 [.sc (.int .i64 0), .sc (.string ⟨#[]⟩), .sc (.int .i64 0), .sl 0 [] true, .sc (.int .i64 0)], .box 29 [.sc (.int .i64 8), .sc (.string ⟨#[]⟩), .sc (.int .i64 0), .own 3 1000000, .sc (.int .i64 v1.1)], .row 29 (List.map Node.av ((([] : List Node) ++ [v15.1]) ++ [v16.1]) ++ [.agg [.sc (.int .i64 0), .sc (.string (ByteArray.mk #[])), .sc (.int .i64 0), .sl 0 [] true, .sc (.int .i64 0)]]) 1000001 true], .el 29 3 1000001 ((List.map Node.av ((([] : List Node) ++ [v15.1]) ++ [v16.1])).length) 0, [.box 44 [.sl 66 (List.map Token.av v18.2.L) false, .sc (.int .i64 v18.2.I), .sc (.int .i64 v18.2.End), .sc (.int .i64 v18.2.Deep), .sc (.int .i64 v18.2.F.E), .sc (.int .i64 v18.2.F.At)], .box 29 [.sc (.int .i64 0), .sc (.string ⟨#[]⟩), .sc (.int .i64 0), .sl 0 [] true, .sc (.int .i64 0)], .box 29 [.sc (.int .i64 8), .sc (.string ⟨#[]⟩), .sc (.int .i64 0), .own 3 1000000, .sc (.int .i64 v1.1)], .row 29 (List.map Node.av ((([] : List Node) ++ [v15.1]) ++ [v16.1]) ++ [.agg [.sc (.int .i64 0), .sc (.string (ByteArray.mk #[])), .sc (.int .i64 0), .sl 0 [] true, .sc (.int .i64 0)]]) 1000001 true]⟩, ⟨8, [], [10], .loud, [(124, Node.ag v18.1), (128, .el 29 3 1000001 ((List.map Node.av ((([] : List Node) ++ [v15.1]) ++ [v16.1])).length) 0)], [.box 44 [.sl 66 (List.map Token.av v18.2.L) false, .sc (.int .i64 v18.2.I), .sc (.int .i64 v18.2.End), .sc (.int .i64 v18.2.Deep), .sc (.int .i64 v18.2.F.E), .sc (.int .i64 v18.2.F.At)], .box 29 [.sc (.int .i64 0), .sc (.string ⟨#[]⟩), .sc (.int .i64 0), .sl 0 [] true, .sc (.int .i64 0)], .box 29 [.sc (.int .i64 8), .sc (.string ⟨#[]⟩), .sc (.int .i64 0), .own 3 1000000, .sc (.int .i64 v1.1)], .row 29 (List.map Node.av ((([] : List Node) ++ [v15.1]) ++ [v16.1]) ++ [.agg [.sc (.int .i64 0), .sc (.string (ByteArray.mk #[])), .sc (.int .i64 0), .sl 0 [] true, .sc (.int .i64 0)]]) 1000001 true], .u, [.box 44 [.sl 66 (List.map Token.av v18.2.L) false, .sc (.int .i64 v18.2.I), .sc (.int .i64 v18.2.End), .sc (.int .i64 v18.2.Deep), .sc (.int .i64 v18.2.F.E), .sc (.int .i64 v18.2.F.At)], .box 29 [.sc (.int .i64 0), .sc (.string ⟨#[]⟩), .sc (.int .i64 0), .sl 0 [] true, .sc (.int .i64 0)], .box 29 [.sc (.int .i64 8), .sc (.string ⟨#[]⟩), .sc (.int .i64 0), .own 3 1000000, .sc (.int .i64 v1.1)], .row 29 (List.map Node.av (((([] : List Node) ++ [v15.1]) ++ [v16.1]) ++ [v18.1])) 1000001 true]⟩, ⟨8, [10], [], .loud, [(124, Node.ag v18.1), (128, .el 29 3 1000001 ((List.map Node.av ((([] : List Node) ++ [v15.1]) ++ [v16.1])).length) 0)], [.box 44 [.sl 66 (List.map Token.av v18.2.L) false, .sc (.int .i64 v18.2.I), .sc (.int .i64 v18.2.End), .sc (.int .i64 v18.2.Deep), .sc (.int .i64 v18.2.F.E), .sc (.int .i64 v18.2.F.At)], .box 29 [.sc (.int .i64 0), .sc (.string ⟨#[]⟩), .sc (.int .i64 0), .sl 0 [] true, .sc (.int .i64 0)], .box 29 [.sc (.int .i64 8), .sc (.string ⟨#[]⟩), .sc (.int .i64 0), .own 3 1000001, .sc (.int .i64 v1.1)], .row 29 (List.map Node.av ((([] : List Node) ++ [v15.1]) ++ [v16.1]) ++ [.agg [.sc (.int .i64 0), .sc (.string (ByteArray.mk #[])), .sc (.int .i64 0), .sl 0 [] true, .sc (.int .i64 0)]]) 1000001 true], .u, [.box 44 [.sl 66 (List.map Token.av v18.2.L) false, .sc (.int .i64 v18.2.I), .sc (.int .i64 v18.2.End), .sc (.int .i64 v18.2.Deep), .sc (.int .i64 v18.2.F.E), .sc (.int .i64 v18.2.F.At)], .box 29 [.sc (.int .i64 0), .sc (.string ⟨#[]⟩), .sc (.int .i64 0), .sl 0 [] true, .sc (.int .i64 0)], .box 29 [.sc (.int .i64 8), .sc (.string ⟨#[]⟩), .sc (.int .i64 0), .own 3 1000001, .sc (.int .i64 v1.1)], .row 29 (List.map Node.av (((([] : List Node) ++ [v15.1]) ++ [v16.1]) ++ [v18.1])) 1000001 true]⟩, ⟨7, [10], [], .read, [(125, .sc (.int .i64 (((List.map Node.av ((([] : List Node) ++ [v15.1]) ++ [v16.1])).length : Nat) : Int))), (127, .own 3 1000001)], [.box 44 [.sl 66 (List.map Token.av v18.2.L) false, .sc (.int .i64 v18.2.I), .sc (.int .i64 v18.2.End), .sc (.int .i64 v18.2.Deep), .sc (.int .i64 v18.2.F.E), .sc (.int .i64 v18.2.F.At)], .box 29 [.sc (.int .i64 0), .sc (.string ⟨#[]⟩), .sc (.int .i64 0), .sl 0 [] true, .sc (.int .i64 0)], .box 29 [.sc (.int .i64 8), .sc (.string ⟨#[]⟩), .sc (.int .i64 0), .own 3 1000001, .sc (.int .i64 v1.1)], .row 29 (List.map Node.av ((([] : List Node) ++ [v15.1]) ++ [v16.1]) ++ [.agg [.sc (.int .i64 0), .sc (.string (ByteArray.mk #[])), .sc (.int .i64 0), .sl 0 [] true, .sc (.int .i64 0)]]) 1000001 true], .el 29 3 1000001 ((List.map Node.av ((([] : List Node) ++ [v15.1]) ++ [v16.1])).length) 0, [.box 44 [.sl 66 (List.map Token.av v18.2.L) false, .sc (.int .i64 v18.2.I), .sc (.int .i64 v18.2.End), .sc (.int .i64 v18.2.Deep), .sc (.int .i64 v18.2.F.E), .sc (.int .i64 v18.2.F.At)], .box 29 [.sc (.int .i64 0), .sc (.string ⟨#[]⟩), .sc (.int .i64 0), .sl 0 [] true, .sc (.int .i64 0)], .box 29 [.sc (.int .i64 8), .sc (.string ⟨#[]⟩), .sc (.int .i64 0), .own 3 1000001, .sc (.int .i64 v1.1)], .row 29 (List.map Node.av ((([] : List Node) ++ [v15.1]) ++ [v16.1]) ++ [.agg [.sc (.int .i64 0), .sc (.string (ByteArray.mk #[])), .sc (.int .i64 0), .sl 0 [] true, .sc (.int .i64 0)]]) 1000001 true]⟩] [[0, 1, 2, 3], [0, 1, 2, 3], [0, 1, 2, 3], [0, 1, 2, 3], [0, 1, 2, 3], [0, 1, 2, 3], [0, 1, 2, 3], [0, 1, 2, 3], [0, 1, 2, 3]] (.cons (LQ.ch [0] (H_g_podestaref15_Eye_Expr v17 true v18 hv_v18)) (.cons (LQ.apz Node.av ((([] : List Node) ++ [v15.1]) ++ [v16.1]) (.agg [.sc (.int .i64 0), .sc (.string (ByteArray.mk #[])), .sc (.int .i64 0), .sl 0 [] true, .sc (.int .i64 0)]) hfit2) (.cons (LQ.xo (app_idx (List.map Node.av ((([] : List Node) ++ [v15.1]) ++ [v16.1])) (.agg [.sc (.int .i64 0), .sc (.string (ByteArray.mk #[])), .sc (.int .i64 0), .sl 0 [] true, .sc (.int .i64 0)]))) (.cons (LQ.stz Node.av Node.ag Node.av_eq ((([] : List Node) ++ [v15.1]) ++ [v16.1]) (.agg [.sc (.int .i64 0), .sc (.string (ByteArray.mk #[])), .sc (.int .i64 0), .sl 0 [] true, .sc (.int .i64 0)]) v18.1) (.cons (LQ.stz Node.av Node.ag Node.av_eq ((([] : List Node) ++ [v15.1]) ++ [v16.1]) (.agg [.sc (.int .i64 0), .sc (.string (ByteArray.mk #[])), .sc (.int .i64 0), .sl 0 [] true, .sc (.int .i64 0)]) v18.1) (.cons (LQ.xo (app_idx (List.map Node.av ((([] : List Node) ++ [v15.1]) ++ [v16.1])) (.agg [.sc (.int .i64 0), .sc (.string (ByteArray.mk #[])), .sc (.int .i64 0), .sl 0 [] true, .sc (.int .i64 0)]))) .nil)))))) (by kernel_rfl) (.sg 1 [0,2,3,4] (bndO H fun v19 hv_v19 H => (fitH H fun hfit2 H => (.rp hc0 [0, 2, 3, 4] [⟨4, [], [], .loud, [(132, .ptr 0 0 none), (133, .sc (.int .i64 v1.1))], [.box 44 [.sl 66 (List.map Token.av v18.2.L) false, .sc (.int .i64 v18.2.I), .sc (.int .i64 v18.2.End), .sc (.int .i64 v18.2.Deep), .sc (.int .i64 v18.2.F.E), .sc (.int .i64 v18.2.F.At)], .box 29 [.sc (.int .i64 0), .sc (.string ⟨#[]⟩), .sc (.int .i64 0), .sl 0 [] true, .sc (.int .i64 0)], .box 29 [.sc (.int .i64 8), .sc (.string ⟨#[]⟩), .sc (.int .i64 0), .own 3 1000000, .sc (.int .i64 v1.1)], .row 29 (List.map Node.av (((([] : List Node) ++ [v15.1]) ++ [v16.1]) ++ [v18.1])) 1000000 true], Node.ag v19.1, [.box 44 [.sl 66 (List.map Token.av v19.2.L) false, .sc (.int .i64 v19.2.I), .sc (.int .i64 v19.2.End), .sc (.int .i64 v19.2.Deep), .sc (.int .i64 v19.2.F.E), .sc (.int .i64 v19.2.F.At)], .box 29 [.sc (.int .i64 0), .sc (.string ⟨#[]⟩), .sc (.int .i64 0), .sl 0 [] true, .sc (.int .i64 0)], .box 29 [.sc (.int .i64 8), .sc (.string ⟨#[]⟩), .sc (.int .i64 0), .own 3 1000000, .sc (.int .i64 v1.1)], .row 29 (List.map Node.av (((([] : List Node) ++ [v15.1]) ++ [v16.1]) ++ [v18.1])) 1000000 true]⟩, ⟨7, [], [], .loud, [(131, .own 3 1000000), (136, .sl 29 [.agg [.sc (.int .i64 0), .sc (.string (ByteArray.mk #[])), .sc (.int .i64 0), .sl 0 [] true, .sc (.int .i64 0)]] true)], [.box 44 [.sl 66 (List.map Token.av v19.2.L) false, .sc (.int .i64 v19.2.I), .sc (.int .i64 v19.2.End), .sc (.int .i64 v19.2.Deep), .sc (.int .i64 v19.2.F.E), .sc (.int .i64 v19.2.F.At)], .box 29 [.sc (.int .i64 0), .sc (.string ⟨#[]⟩), .sc (.int .i64 0), .sl 0 [] true, .sc (.int .i64 0)], .box 29 [.sc (.int .i64 8), .sc (.string ⟨#[]⟩), .sc (.int .i64 0), .own 3 1000000, .sc (.int .i64 v1.1)], .row 29 (List.map Node.av (((([] : List Node) ++ [v15.1]) ++ [v16.1]) ++ [v18.1])) 1000000 true], .own 3 1000001, [.box 44 [.sl 66 (List.map Token.av v19.2.L) false, .sc (.int .i64 v19.2.I), .sc (.int .i64 v19.2.End), .sc (.int .i64 v19.2.Deep), .sc (.int .i64 v19.2.F.E), .sc (.int .i64 v19.2.F.At)], .box 29 [.sc (.int .i64 0), .sc (.string ⟨#[]⟩), .sc (.int .i64 0), .sl 0 [] true, .sc (.int .i64 0)], .box 29 [.sc (.int .i64 8), .sc (.string ⟨#[]⟩), .sc (.int .i64 0), .own 3 1000000, .sc (.int .i64 v1.1)], .row 29 (List.map Node.av (((([] : List Node) ++ [v15.1]) ++ [v16.1]) ++ [v18.1]) ++ [.agg [.sc (.int .i64 0), .sc (.string (ByteArray.mk #[])), .sc (.int .i64 0), .sl 0 [] true, .sc (.int .i64 0)]]) 1000001 true]⟩, ⟨8, [], [11], .read, [(135, .sc (.int .i64 (((List.map Node.av (((([] : List Node) ++ [v15.1]) ++ [v16.1]) ++ [v18.1])).length : Nat) : Int))), (137, .own 3 1000001)], [.box 44 [.sl 66 (List.map Token.av v19.2.L) false, .sc (.int .i64 v19.2.I), .sc (.int .i64 v19.2.End), .sc (.int .i64 v19.2.Deep), .sc (.int .i64 v19.2.F.E), .sc (.int .i64 v19.2.F.At)], .box 29 [.sc (.int .i64 0), .sc (.string ⟨#[]⟩), .sc (.int .i64 0), .sl 0 [] true, .sc (.int .i64 0)], .box 29 [.sc (.int .i64 8), .sc (.string ⟨#[]⟩), .sc (.int .i64 0), .own 3 1000000, .sc (.int .i64 v1.1)], .row 29 (List.map Node.av (((([] : List Node) ++ [v15.1]) ++ [v16.1]) ++ [v18.1]) ++ [.agg [.sc (.int .i64 0), .sc (.string (ByteArray.mk #[])), .sc (.int .i64 0), .sl 0 [] true, .sc (.int .i64 0)]]) 1000001 true], .el 29 3 1000001 ((List.map Node.av (((([] : List Node) ++ [v15.1]) ++ [v16.1]) ++ [v18.1])).length) 0, [.box 44 [.sl 66 (List.map Token.av v19.2.L) false, .sc (.int .i64 v19.2.I), .sc (.int .i64 v19.2.End), .sc (.int .i64 v19.2.Deep), .sc (.int .i64 v19.2.F.E), .sc (.int .i64 v19.2.F.At)], .box 29 [.sc (.int .i64 0), .sc (.string ⟨#[]⟩), .sc (.int .i64 0), .sl 0 [] true, .sc (.int .i64 0)], .box 29 [.sc (.int .i64 8), .sc (.string ⟨#[]⟩), .sc (.int .i64 0), .own 3 1000000, .sc (.int .i64 v1.1)], .row 29 (List.map Node.av (((([] : List Node) ++ [v15.1]) ++ [v16.1]) ++ [v18.1]) ++ [.agg [.sc (.int .i64 0), .sc (.string (ByteArray.mk #[])), .sc (.int .i64 0), .sl 0 [] true, .sc (.int .i64 0)]]) 1000001 true]⟩, ⟨9, [], [11], .loud, [(134, Node.ag v19.1), (138, .el 29 3 1000001 ((List.map Node.av (((([] : List Node) ++ [v15.1]) ++ [v16.1]) ++ [v18.1])).length) 0)], [.box 44 [.sl 66 (List.map Token.av v19.2.L) false, .sc (.int .i64 v19.2.I), .sc (.int .i64 v19.2.End), .sc (.int .i64 v19.2.Deep), .sc (.int .i64 v19.2.F.E), .sc (.int .i64 v19.2.F.At)], .box 29 [.sc (.int .i64 0), .sc (.string ⟨#[]⟩), .sc (.int .i64 0), .sl 0 [] true, .sc (.int .i64 0)], .box 29 [.sc (.int .i64 8), .sc (.string ⟨#[]⟩), .sc (.int .i64 0), .own 3 1000000, .sc (.int .i64 v1.1)], .row 29 (List.map Node.av (((([] : List Node) ++ [v15.1]) ++ [v16.1]) ++ [v18.1]) ++ [.agg [.sc (.int .i64 0), .sc (.string (ByteArray.mk #[])), .sc (.int .i64 0), .sl 0 [] true, .sc (.int .i64 0)]]) 1000001 true], .u, [.box 44 [.sl 66 (List.map Token.av v19.2.L) false, .sc (.int .i64 v19.2.I), .sc (.int .i64 v19.2.End), .sc (.int .i64 v19.2.Deep), .sc (.int .i64 v19.2.F.E), .sc (.int .i64 v19.2.F.At)], .box 29 [.sc (.int .i64 0), .sc (.string ⟨#[]⟩), .sc (.int .i64 0), .sl 0 [] true, .sc (.int .i64 0)], .box 29 [.sc (.int .i64 8), .sc (.string ⟨#[]⟩), .sc (.int .i64 0), .own 3 1000000, .sc (.int .i64 v1.1)], .row 29 (List.map Node.av ((((([] : List Node) ++ [v15.1]) ++ [v16.1]) ++ [v18.1]) ++ [v19.1])) 1000001 true]⟩, ⟨9, [11], [], .loud, [(134, Node.ag v19.1), (138, .el 29 3 1000001 ((List.map Node.av (((([] : List Node) ++ [v15.1]) ++ [v16.1]) ++ [v18.1])).length) 0)], [.box 44 [.sl 66 (List.map Token.av v19.2.L) false, .sc (.int .i64 v19.2.I), .sc (.int .i64 v19.2.End), .sc (.int .i64 v19.2.Deep), .sc (.int .i64 v19.2.F.E), .sc (.int .i64 v19.2.F.At)], .box 29 [.sc (.int .i64 0), .sc (.string ⟨#[]⟩), .sc (.int .i64 0), .sl 0 [] true, .sc (.int .i64 0)], .box 29 [.sc (.int .i64 8), .sc (.string ⟨#[]⟩), .sc (.int .i64 0), .own 3 1000001, .sc (.int .i64 v1.1)], .row 29 (List.map Node.av (((([] : List Node) ++ [v15.1]) ++ [v16.1]) ++ [v18.1]) ++ [.agg [.sc (.int .i64 0), .sc (.string (ByteArray.mk #[])), .sc (.int .i64 0), .sl 0 [] true, .sc (.int .i64 0)]]) 1000001 true], .u, [.box 44 [.sl 66 (List.map Token.av v19.2.L) false, .sc (.int .i64 v19.2.I), .sc (.int .i64 v19.2.End), .sc (.int .i64 v19.2.Deep), .sc (.int .i64 v19.2.F.E), .sc (.int .i64 v19.2.F.At)], .box 29 [.sc (.int .i64 0), .sc (.string ⟨#[]⟩), .sc (.int .i64 0), .sl 0 [] true, .sc (.int .i64 0)], .box 29 [.sc (.int .i64 8), .sc (.string ⟨#[]⟩), .sc (.int .i64 0), .own 3 1000001, .sc (.int .i64 v1.1)], .row 29 (List.map Node.av ((((([] : List Node) ++ [v15.1]) ++ [v16.1]) ++ [v18.1]) ++ [v19.1])) 1000001 true]⟩, ⟨8, [11], [], .read, [(135, .sc (.int .i64 (((List.map Node.av (((([] : List Node) ++ [v15.1]) ++ [v16.1]) ++ [v18.1])).length : Nat) : Int))), (137, .own 3 1000001)], [.box 44 [.sl 66 (List.map Token.av v19.2.L) false, .sc (.int .i64 v19.2.I), .sc (.int .i64 v19.2.End), .sc (.int .i64 v19.2.Deep), .sc (.int .i64 v19.2.F.E), .sc (.int .i64 v19.2.F.At)], .box 29 [.sc (.int .i64 0), .sc (.string ⟨#[]⟩), .sc (.int .i64 0), .sl 0 [] true, .sc (.int .i64 0)], .box 29 [.sc (.int .i64 8), .sc (.string ⟨#[]⟩), .sc (.int .i64 0), .own 3 1000001, .sc (.int .i64 v1.1)], .row 29 (List.map Node.av (((([] : List Node) ++ [v15.1]) ++ [v16.1]) ++ [v18.1]) ++ [.agg [.sc (.int .i64 0), .sc (.string (ByteArray.mk #[])), .sc (.int .i64 0), .sl 0 [] true, .sc (.int .i64 0)]]) 1000001 true], .el 29 3 1000001 ((List.map Node.av (((([] : List Node) ++ [v15.1]) ++ [v16.1]) ++ [v18.1])).length) 0, [.box 44 [.sl 66 (List.map Token.av v19.2.L) false, .sc (.int .i64 v19.2.I), .sc (.int .i64 v19.2.End), .sc (.int .i64 v19.2.Deep), .sc (.int .i64 v19.2.F.E), .sc (.int .i64 v19.2.F.At)], .box 29 [.sc (.int .i64 0), .sc (.string ⟨#[]⟩), .sc (.int .i64 0), .sl 0 [] true, .sc (.int .i64 0)], .box 29 [.sc (.int .i64 8), .sc (.string ⟨#[]⟩), .sc (.int .i64 0), .own 3 1000001, .sc (.int .i64 v1.1)], .row 29 (List.map Node.av (((([] : List Node) ++ [v15.1]) ++ [v16.1]) ++ [v18.1]) ++ [.agg [.sc (.int .i64 0), .sc (.string (ByteArray.mk #[])), .sc (.int .i64 0), .sl 0 [] true, .sc (.int .i64 0)]]) 1000001 true]⟩] [[0, 1, 2, 3], [0, 1, 2, 3], [0, 1, 2, 3], [0, 1, 2, 3], [0, 1, 2, 3], [0, 1, 2, 3], [0, 1, 2, 3], [0, 1, 2, 3], [0, 1, 2, 3]] (.cons (LQ.ch [0] (H_g_podestaref15_Eye_given v18.2 (ByteArray.mk #[105, 100, 108, 101]) v1.1 v19 hv_v19)) (.cons (LQ.apz Node.av (((([] : List Node) ++ [v15.1]) ++ [v16.1]) ++ [v18.1]) (.agg [.sc (.int .i64 0), .sc (.string (ByteArray.mk #[])), .sc (.int .i64 0), .sl 0 [] true, .sc (.int .i64 0)]) hfit2) (.cons (LQ.xo (app_idx (List.map Node.av (((([] : List Node) ++ [v15.1]) ++ [v16.1]) ++ [v18.1])) (.agg [.sc (.int .i64 0), .sc (.string (ByteArray.mk #[])), .sc (.int .i64 0), .sl 0 [] true, .sc (.int .i64 0)]))) (.cons (LQ.stz Node.av Node.ag Node.av_eq (((([] : List Node) ++ [v15.1]) ++ [v16.1]) ++ [v18.1]) (.agg [.sc (.int .i64 0), .sc (.string (ByteArray.mk #[])), .sc (.int .i64 0), .sl 0 [] true, .sc (.int .i64 0)]) v19.1) (.cons (LQ.stz Node.av Node.ag Node.av_eq (((([] : List Node) ++ [v15.1]) ++ [v16.1]) ++ [v18.1]) (.agg [.sc (.int .i64 0), .sc (.string (ByteArray.mk #[])), .sc (.int .i64 0), .sl 0 [] true, .sc (.int .i64 0)]) v19.1) (.cons (LQ.xo (app_idx (List.map Node.av (((([] : List Node) ++ [v15.1]) ++ [v16.1]) ++ [v18.1])) (.agg [.sc (.int .i64 0), .sc (.string (ByteArray.mk #[])), .sc (.int .i64 0), .sl 0 [] true, .sc (.int .i64 0)]))) .nil)))))) (by kernel_rfl) (.sg 1 [0,2,3,4] (bndO H fun v20 hv_v20 H => (fitH H fun hfit2 H => (.rp hc0 [0, 2, 4] [⟨4, [], [], .loud, [(142, .ptr 0 0 none), (143, .sc (.int .i64 v1.1))], [.box 44 [.sl 66 (List.map Token.av v19.2.L) false, .sc (.int .i64 v19.2.I), .sc (.int .i64 v19.2.End), .sc (.int .i64 v19.2.Deep), .sc (.int .i64 v19.2.F.E), .sc (.int .i64 v19.2.F.At)], .box 29 [.sc (.int .i64 0), .sc (.string ⟨#[]⟩), .sc (.int .i64 0), .sl 0 [] true, .sc (.int .i64 0)], .box 29 [.sc (.int .i64 8), .sc (.string ⟨#[]⟩), .sc (.int .i64 0), .own 3 1000000, .sc (.int .i64 v1.1)], .row 29 (List.map Node.av ((((([] : List Node) ++ [v15.1]) ++ [v16.1]) ++ [v18.1]) ++ [v19.1])) 1000000 true], Node.ag v20.1, [.box 44 [.sl 66 (List.map Token.av v20.2.L) false, .sc (.int .i64 v20.2.I), .sc (.int .i64 v20.2.End), .sc (.int .i64 v20.2.Deep), .sc (.int .i64 v20.2.F.E), .sc (.int .i64 v20.2.F.At)], .box 29 [.sc (.int .i64 0), .sc (.string ⟨#[]⟩), .sc (.int .i64 0), .sl 0 [] true, .sc (.int .i64 0)], .box 29 [.sc (.int .i64 8), .sc (.string ⟨#[]⟩), .sc (.int .i64 0), .own 3 1000000, .sc (.int .i64 v1.1)], .row 29 (List.map Node.av ((((([] : List Node) ++ [v15.1]) ++ [v16.1]) ++ [v18.1]) ++ [v19.1])) 1000000 true]⟩, ⟨7, [], [], .loud, [(141, .own 3 1000000), (146, .sl 29 [.agg [.sc (.int .i64 0), .sc (.string (ByteArray.mk #[])), .sc (.int .i64 0), .sl 0 [] true, .sc (.int .i64 0)]] true)], [.box 44 [.sl 66 (List.map Token.av v20.2.L) false, .sc (.int .i64 v20.2.I), .sc (.int .i64 v20.2.End), .sc (.int .i64 v20.2.Deep), .sc (.int .i64 v20.2.F.E), .sc (.int .i64 v20.2.F.At)], .box 29 [.sc (.int .i64 0), .sc (.string ⟨#[]⟩), .sc (.int .i64 0), .sl 0 [] true, .sc (.int .i64 0)], .box 29 [.sc (.int .i64 8), .sc (.string ⟨#[]⟩), .sc (.int .i64 0), .own 3 1000000, .sc (.int .i64 v1.1)], .row 29 (List.map Node.av ((((([] : List Node) ++ [v15.1]) ++ [v16.1]) ++ [v18.1]) ++ [v19.1])) 1000000 true], .own 3 1000001, [.box 44 [.sl 66 (List.map Token.av v20.2.L) false, .sc (.int .i64 v20.2.I), .sc (.int .i64 v20.2.End), .sc (.int .i64 v20.2.Deep), .sc (.int .i64 v20.2.F.E), .sc (.int .i64 v20.2.F.At)], .box 29 [.sc (.int .i64 0), .sc (.string ⟨#[]⟩), .sc (.int .i64 0), .sl 0 [] true, .sc (.int .i64 0)], .box 29 [.sc (.int .i64 8), .sc (.string ⟨#[]⟩), .sc (.int .i64 0), .own 3 1000000, .sc (.int .i64 v1.1)], .row 29 (List.map Node.av ((((([] : List Node) ++ [v15.1]) ++ [v16.1]) ++ [v18.1]) ++ [v19.1]) ++ [.agg [.sc (.int .i64 0), .sc (.string (ByteArray.mk #[])), .sc (.int .i64 0), .sl 0 [] true, .sc (.int .i64 0)]]) 1000001 true]⟩, ⟨8, [], [11], .read, [(145, .sc (.int .i64 (((List.map Node.av ((((([] : List Node) ++ [v15.1]) ++ [v16.1]) ++ [v18.1]) ++ [v19.1])).length : Nat) : Int))), (147, .own 3 1000001)], [.box 44 [.sl 66 (List.map Token.av v20.2.L) false, .sc (.int .i64 v20.2.I), .sc (.int .i64 v20.2.End), .sc (.int .i64 v20.2.Deep), .sc (.int .i64 v20.2.F.E), .sc (.int .i64 v20.2.F.At)], .box 29 [.sc (.int .i64 0), .sc (.string ⟨#[]⟩), .sc (.int .i64 0), .sl 0 [] true, .sc (.int .i64 0)], .box 29 [.sc (.int .i64 8), .sc (.string ⟨#[]⟩), .sc (.int .i64 0), .own 3 1000000, .sc (.int .i64 v1.1)], .row 29 (List.map Node.av ((((([] : List Node) ++ [v15.1]) ++ [v16.1]) ++ [v18.1]) ++ [v19.1]) ++ [.agg [.sc (.int .i64 0), .sc (.string (ByteArray.mk #[])), .sc (.int .i64 0), .sl 0 [] true, .sc (.int .i64 0)]]) 1000001 true], .el 29 3 1000001 ((List.map Node.av ((((([] : List Node) ++ [v15.1]) ++ [v16.1]) ++ [v18.1]) ++ [v19.1])).length) 0, [.box 44 [.sl 66 (List.map Token.av v20.2.L) false, .sc (.int .i64 v20.2.I), .sc (.int .i64 v20.2.End), .sc (.int .i64 v20.2.Deep), .sc (.int .i64 v20.2.F.E), .sc (.int .i64 v20.2.F.At)], .box 29 [.sc (.int .i64 0), .sc (.string ⟨#[]⟩), .sc (.int .i64 0), .sl 0 [] true, .sc (.int .i64 0)], .box 29 [.sc (.int .i64 8), .sc (.string ⟨#[]⟩), .sc (.int .i64 0), .own 3 1000000, .sc (.int .i64 v1.1)], .row 29 (List.map Node.av ((((([] : List Node) ++ [v15.1]) ++ [v16.1]) ++ [v18.1]) ++ [v19.1]) ++ [.agg [.sc (.int .i64 0), .sc (.string (ByteArray.mk #[])), .sc (.int .i64 0), .sl 0 [] true, .sc (.int .i64 0)]]) 1000001 true]⟩, ⟨9, [], [11], .loud, [(144, Node.ag v20.1), (148, .el 29 3 1000001 ((List.map Node.av ((((([] : List Node) ++ [v15.1]) ++ [v16.1]) ++ [v18.1]) ++ [v19.1])).length) 0)], [.box 44 [.sl 66 (List.map Token.av v20.2.L) false, .sc (.int .i64 v20.2.I), .sc (.int .i64 v20.2.End), .sc (.int .i64 v20.2.Deep), .sc (.int .i64 v20.2.F.E), .sc (.int .i64 v20.2.F.At)], .box 29 [.sc (.int .i64 0), .sc (.string ⟨#[]⟩), .sc (.int .i64 0), .sl 0 [] true, .sc (.int .i64 0)], .box 29 [.sc (.int .i64 8), .sc (.string ⟨#[]⟩), .sc (.int .i64 0), .own 3 1000000, .sc (.int .i64 v1.1)], .row 29 (List.map Node.av ((((([] : List Node) ++ [v15.1]) ++ [v16.1]) ++ [v18.1]) ++ [v19.1]) ++ [.agg [.sc (.int .i64 0), .sc (.string (ByteArray.mk #[])), .sc (.int .i64 0), .sl 0 [] true, .sc (.int .i64 0)]]) 1000001 true], .u, [.box 44 [.sl 66 (List.map Token.av v20.2.L) false, .sc (.int .i64 v20.2.I), .sc (.int .i64 v20.2.End), .sc (.int .i64 v20.2.Deep), .sc (.int .i64 v20.2.F.E), .sc (.int .i64 v20.2.F.At)], .box 29 [.sc (.int .i64 0), .sc (.string ⟨#[]⟩), .sc (.int .i64 0), .sl 0 [] true, .sc (.int .i64 0)], .box 29 [.sc (.int .i64 8), .sc (.string ⟨#[]⟩), .sc (.int .i64 0), .own 3 1000000, .sc (.int .i64 v1.1)], .row 29 (List.map Node.av (((((([] : List Node) ++ [v15.1]) ++ [v16.1]) ++ [v18.1]) ++ [v19.1]) ++ [v20.1])) 1000001 true]⟩, ⟨9, [11], [], .loud, [(144, Node.ag v20.1), (148, .el 29 3 1000001 ((List.map Node.av ((((([] : List Node) ++ [v15.1]) ++ [v16.1]) ++ [v18.1]) ++ [v19.1])).length) 0)], [.box 44 [.sl 66 (List.map Token.av v20.2.L) false, .sc (.int .i64 v20.2.I), .sc (.int .i64 v20.2.End), .sc (.int .i64 v20.2.Deep), .sc (.int .i64 v20.2.F.E), .sc (.int .i64 v20.2.F.At)], .box 29 [.sc (.int .i64 0), .sc (.string ⟨#[]⟩), .sc (.int .i64 0), .sl 0 [] true, .sc (.int .i64 0)], .box 29 [.sc (.int .i64 8), .sc (.string ⟨#[]⟩), .sc (.int .i64 0), .own 3 1000001, .sc (.int .i64 v1.1)], .row 29 (List.map Node.av ((((([] : List Node) ++ [v15.1]) ++ [v16.1]) ++ [v18.1]) ++ [v19.1]) ++ [.agg [.sc (.int .i64 0), .sc (.string (ByteArray.mk #[])), .sc (.int .i64 0), .sl 0 [] true, .sc (.int .i64 0)]]) 1000001 true], .u, [.box 44 [.sl 66 (List.map Token.av v20.2.L) false, .sc (.int .i64 v20.2.I), .sc (.int .i64 v20.2.End), .sc (.int .i64 v20.2.Deep), .sc (.int .i64 v20.2.F.E), .sc (.int .i64 v20.2.F.At)], .box 29 [.sc (.int .i64 0), .sc (.string ⟨#[]⟩), .sc (.int .i64 0), .sl 0 [] true, .sc (.int .i64 0)], .box 29 [.sc (.int .i64 8), .sc (.string ⟨#[]⟩), .sc (.int .i64 0), .own 3 1000001, .sc (.int .i64 v1.1)], .row 29 (List.map Node.av (((((([] : List Node) ++ [v15.1]) ++ [v16.1]) ++ [v18.1]) ++ [v19.1]) ++ [v20.1])) 1000001 true]⟩, ⟨8, [11], [], .read, [(145, .sc (.int .i64 (((List.map Node.av ((((([] : List Node) ++ [v15.1]) ++ [v16.1]) ++ [v18.1]) ++ [v19.1])).length : Nat) : Int))), (147, .own 3 1000001)], [.box 44 [.sl 66 (List.map Token.av v20.2.L) false, .sc (.int .i64 v20.2.I), .sc (.int .i64 v20.2.End), .sc (.int .i64 v20.2.Deep), .sc (.int .i64 v20.2.F.E), .sc (.int .i64 v20.2.F.At)], .box 29 [.sc (.int .i64 0), .sc (.string ⟨#[]⟩), .sc (.int .i64 0), .sl 0 [] true, .sc (.int .i64 0)], .box 29 [.sc (.int .i64 8), .sc (.string ⟨#[]⟩), .sc (.int .i64 0), .own 3 1000001, .sc (.int .i64 v1.1)], .row 29 (List.map Node.av ((((([] : List Node) ++ [v15.1]) ++ [v16.1]) ++ [v18.1]) ++ [v19.1]) ++ [.agg [.sc (.int .i64 0), .sc (.string (ByteArray.mk #[])), .sc (.int .i64 0), .sl 0 [] true, .sc (.int .i64 0)]]) 1000001 true], .el 29 3 1000001 ((List.map Node.av ((((([] : List Node) ++ [v15.1]) ++ [v16.1]) ++ [v18.1]) ++ [v19.1])).length) 0, [.box 44 [.sl 66 (List.map Token.av v20.2.L) false, .sc (.int .i64 v20.2.I), .sc (.int .i64 v20.2.End), .sc (.int .i64 v20.2.Deep), .sc (.int .i64 v20.2.F.E), .sc (.int .i64 v20.2.F.At)], .box 29 [.sc (.int .i64 0), .sc (.string ⟨#[]⟩), .sc (.int .i64 0), .sl 0 [] true, .sc (.int .i64 0)], .box 29 [.sc (.int .i64 8), .sc (.string ⟨#[]⟩), .sc (.int .i64 0), .own 3 1000001, .sc (.int .i64 v1.1)], .row 29 (List.map Node.av ((((([] : List Node) ++ [v15.1]) ++ [v16.1]) ++ [v18.1]) ++ [v19.1]) ++ [.agg [.sc (.int .i64 0), .sc (.string (ByteArray.mk #[])), .sc (.int .i64 0), .sl 0 [] true, .sc (.int .i64 0)]]) 1000001 true]⟩] [[0, 1, 2, 3], [0, 1, 2, 3], [0, 1, 2, 3], [0, 1, 2, 3], [0, 1, 2, 3], [0, 1, 2, 3], [0, 1, 2, 3], [0, 1, 2, 3], [0, 1, 2, 3]] (.cons (LQ.ch [0] (H_g_podestaref15_Eye_given v19.2 (ByteArray.mk #[104, 97, 114, 100]) v1.1 v20 hv_v20)) (.cons (LQ.apz Node.av ((((([] : List Node) ++ [v15.1]) ++ [v16.1]) ++ [v18.1]) ++ [v19.1]) (.agg [.sc (.int .i64 0), .sc (.string (ByteArray.mk #[])), .sc (.int .i64 0), .sl 0 [] true, .sc (.int .i64 0)]) hfit2) (.cons (LQ.xo (app_idx (List.map Node.av ((((([] : List Node) ++ [v15.1]) ++ [v16.1]) ++ [v18.1]) ++ [v19.1])) (.agg [.sc (.int .i64 0), .sc (.string (ByteArray.mk #[])), .sc (.int .i64 0), .sl 0 [] true, .sc (.int .i64 0)]))) (.cons (LQ.stz Node.av Node.ag Node.av_eq ((((([] : List Node) ++ [v15.1]) ++ [v16.1]) ++ [v18.1]) ++ [v19.1]) (.agg [.sc (.int .i64 0), .sc (.string (ByteArray.mk #[])), .sc (.int .i64 0), .sl 0 [] true, .sc (.int .i64 0)]) v20.1) (.cons (LQ.stz Node.av Node.ag Node.av_eq ((((([] : List Node) ++ [v15.1]) ++ [v16.1]) ++ [v18.1]) ++ [v19.1]) (.agg [.sc (.int .i64 0), .sc (.string (ByteArray.mk #[])), .sc (.int .i64 0), .sl 0 [] true, .sc (.int .i64 0)]) v20.1) (.cons (LQ.xo (app_idx (List.map Node.av ((((([] : List Node) ++ [v15.1]) ++ [v16.1]) ++ [v18.1]) ++ [v19.1])) (.agg [.sc (.int .i64 0), .sc (.string (ByteArray.mk #[])), .sc (.int .i64 0), .sl 0 [] true, .sc (.int .i64 0)]))) .nil)))))) (by kernel_rfl) (.sg 2 [0,2,4] (.rg (.sg 1 [0,2,4,150] (bndO H fun v21 hv H => (.ch [0,2,4,151] [0] (podestaref15_Eye_Eat_walk v20.2 (ByteArray.mk #[99, 104, 101, 99, 107]) v21 hv) (.dn (.cd v21.1 H (fun hb H => ?_) (fun hb H => ?_)))))))))))))))))))))))))))))))))
              ·
                refine .sg 2 [0,2,4] (bndO H fun v22 hv_v22 H => (fitH H fun hfit2 H => (.rp hc0 [0, 2, 4] [⟨3, [], [], .loud, [(155, .ptr 0 0 none)], [.box 44 [.sl 66 (List.map Token.av v21.2.L) false, .sc (.int .i64 v21.2.I), .sc (.int .i64 v21.2.End), .sc (.int .i64 v21.2.Deep), .sc (.int .i64 v21.2.F.E), .sc (.int .i64 v21.2.F.At)], .box 29 [.sc (.int .i64 0), .sc (.string ⟨#[]⟩), .sc (.int .i64 0), .sl 0 [] true, .sc (.int .i64 0)], .box 29 [.sc (.int .i64 8), .sc (.string ⟨#[]⟩), .sc (.int .i64 1), .own 3 1000000, .sc (.int .i64 v1.1)], .row 29 (List.map Node.av (((((([] : List Node) ++ [v15.1]) ++ [v16.1]) ++ [v18.1]) ++ [v19.1]) ++ [v20.1])) 1000000 true], Node.ag v22.1, [.box 44 [.sl 66 (List.map Token.av v22.2.L) false, .sc (.int .i64 v22.2.I), .sc (.int .i64 v22.2.End), .sc (.int .i64 v22.2.Deep), .sc (.int .i64 v22.2.F.E), .sc (.int .i64 v22.2.F.At)], .box 29 [.sc (.int .i64 0), .sc (.string ⟨#[]⟩), .sc (.int .i64 0), .sl 0 [] true, .sc (.int .i64 0)], .box 29 [.sc (.int .i64 8), .sc (.string ⟨#[]⟩), .sc (.int .i64 1), .own 3 1000000, .sc (.int .i64 v1.1)], .row 29 (List.map Node.av (((((([] : List Node) ++ [v15.1]) ++ [v16.1]) ++ [v18.1]) ++ [v19.1]) ++ [v20.1])) 1000000 true]⟩, ⟨6, [], [], .loud, [(154, .own 3 1000000), (158, .sl 29 [.agg [.sc (.int .i64 0), .sc (.string (ByteArray.mk #[])), .sc (.int .i64 0), .sl 0 [] true, .sc (.int .i64 0)]] true)], [.box 44 [.sl 66 (List.map Token.av v22.2.L) false, .sc (.int .i64 v22.2.I), .sc (.int .i64 v22.2.End), .sc (.int .i64 v22.2.Deep), .sc (.int .i64 v22.2.F.E), .sc (.int .i64 v22.2.F.At)], .box 29 [.sc (.int .i64 0), .sc (.string ⟨#[]⟩), .sc (.int .i64 0), .sl 0 [] true, .sc (.int .i64 0)], .box 29 [.sc (.int .i64 8), .sc (.string ⟨#[]⟩), .sc (.int .i64 1), .own 3 1000000, .sc (.int .i64 v1.1)], .row 29 (List.map Node.av (((((([] : List Node) ++ [v15.1]) ++ [v16.1]) ++ [v18.1]) ++ [v19.1]) ++ [v20.1])) 1000000 true], .own 3 1000001, [.box 44 [.sl 66 (List.map Token.av v22.2.L) false, .sc (.int .i64 v22.2.I), .sc (.int .i64 v22.2.End), .sc (.int .i64 v22.2.Deep), .sc (.int .i64 v22.2.F.E), .sc (.int .i64 v22.2.F.At)], .box 29 [.sc (.int .i64 0), .sc (.string ⟨#[]⟩), .sc (.int .i64 0), .sl 0 [] true, .sc (.int .i64 0)], .box 29 [.sc (.int .i64 8), .sc (.string ⟨#[]⟩), .sc (.int .i64 1), .own 3 1000000, .sc (.int .i64 v1.1)], .row 29 (List.map Node.av (((((([] : List Node) ++ [v15.1]) ++ [v16.1]) ++ [v18.1]) ++ [v19.1]) ++ [v20.1]) ++ [.agg [.sc (.int .i64 0), .sc (.string (ByteArray.mk #[])), .sc (.int .i64 0), .sl 0 [] true, .sc (.int .i64 0)]]) 1000001 true]⟩, ⟨7, [], [10], .read, [(157, .sc (.int .i64 (((List.map Node.av (((((([] : List Node) ++ [v15.1]) ++ [v16.1]) ++ [v18.1]) ++ [v19.1]) ++ [v20.1])).length : Nat) : Int))), (159, .own 3 1000001)], [.box 44 [.sl 66 (List.map Token.av v22.2.L) false, .sc (.int .i64 v22.2.I), .sc (.int .i64 v22.2.End), .sc (.int .i64 v22.2.Deep), .sc (.int .i64 v22.2.F.E), .sc (.int .i64 v22.2.F.At)], .box 29 [.sc (.int .i64 0), .sc (.string ⟨#[]⟩), .sc (.int .i64 0), .sl 0 [] true, .sc (.int .i64 0)], .box 29 [.sc (.int .i64 8), .sc (.string ⟨#[]⟩), .sc (.int .i64 1), .own 3 1000000, .sc (.int .i64 v1.1)], .row 29 (List.map Node.av (((((([] : List Node) ++ [v15.1]) ++ [v16.1]) ++ [v18.1]) ++ [v19.1]) ++ [v20.1]) ++ [.agg [.sc (.int .i64 0), .sc (.string (ByteArray.mk #[])), .sc (.int .i64 0), .sl 0 [] true, .sc (.int .i64 0)]]) 1000001 true], .el 29 3 1000001 ((List.map Node.av (((((([] : List Node) ++ [v15.1]) ++ [v16.1]) ++ [v18.1]) ++ [v19.1]) ++ [v20.1])).length) 0, [.box 44 [.sl 66 (List.map Token.av v22.2.L) false, .sc (.int .i64 v22.2.I), .sc (.int .i64 v22.2.End), .sc (.int .i64 v22.2.Deep), .sc (.int .i64 v22.2.F.E), .sc (.int .i64 v22.2.F.At)], .box 29 [.sc (.int .i64 0), .sc (.string ⟨#[]⟩), .sc (.int .i64 0), .sl 0 [] true, .sc (.int .i64 0)], .box 29 [.sc (.int .i64 8), .sc (.string ⟨#[]⟩), .sc (.int .i64 1), .own 3 1000000, .sc (.int .i64 v1.1)], .row 29 (List.map Node.av (((((([] : List Node) ++ [v15.1]) ++ [v16.1]) ++ [v18.1]) ++ [v19.1]) ++ [v20.1]) ++ [.agg [.sc (.int .i64 0), .sc (.string (ByteArray.mk #[])), .sc (.int .i64 0), .sl 0 [] true, .sc (.int .i64 0)]]) 1000001 true]⟩, ⟨8, [], [10], .loud, [(156, Node.ag v22.1), (160, .el 29 3 1000001 ((List.map Node.av (((((([] : List Node) ++ [v15.1]) ++ [v16.1]) ++ [v18.1]) ++ [v19.1]) ++ [v20.1])).length) 0)], [.box 44 [.sl 66 (List.map Token.av v22.2.L) false, .sc (.int .i64 v22.2.I), .sc (.int .i64 v22.2.End), .sc (.int .i64 v22.2.Deep), .sc (.int .i64 v22.2.F.E), .sc (.int .i64 v22.2.F.At)], .box 29 [.sc (.int .i64 0), .sc (.string ⟨#[]⟩), .sc (.int .i64 0), .sl 0 [] true, .sc (.int .i64 0)], .box 29 [.sc (.int .i64 8), .sc (.string ⟨#[]⟩), .sc (.int .i64 1), .own 3 1000000, .sc (.int .i64 v1.1)], .row 29 (List.map Node.av (((((([] : List Node) ++ [v15.1]) ++ [v16.1]) ++ [v18.1]) ++ [v19.1]) ++ [v20.1]) ++ [.agg [.sc (.int .i64 0), .sc (.string (ByteArray.mk #[])), .sc (.int .i64 0), .sl 0 [] true, .sc (.int .i64 0)]]) 1000001 true], .u, [.box 44 [.sl 66 (List.map Token.av v22.2.L) false, .sc (.int .i64 v22.2.I), .sc (.int .i64 v22.2.End), .sc (.int .i64 v22.2.Deep), .sc (.int .i64 v22.2.F.E), .sc (.int .i64 v22.2.F.At)], .box 29 [.sc (.int .i64 0), .sc (.string ⟨#[]⟩), .sc (.int .i64 0), .sl 0 [] true, .sc (.int .i64 0)], .box 29 [.sc (.int .i64 8), .sc (.string ⟨#[]⟩), .sc (.int .i64 1), .own 3 1000000, .sc (.int .i64 v1.1)], .row 29 (List.map Node.av ((((((([] : List Node) ++ [v15.1]) ++ [v16.1]) ++ [v18.1]) ++ [v19.1]) ++ [v20.1]) ++ [v22.1])) 1000001 true]⟩, ⟨8, [10], [], .loud, [(156, Node.ag v22.1), (160, .el 29 3 1000001 ((List.map Node.av (((((([] : List Node) ++ [v15.1]) ++ [v16.1]) ++ [v18.1]) ++ [v19.1]) ++ [v20.1])).length) 0)], [.box 44 [.sl 66 (List.map Token.av v22.2.L) false, .sc (.int .i64 v22.2.I), .sc (.int .i64 v22.2.End), .sc (.int .i64 v22.2.Deep), .sc (.int .i64 v22.2.F.E), .sc (.int .i64 v22.2.F.At)], .box 29 [.sc (.int .i64 0), .sc (.string ⟨#[]⟩), .sc (.int .i64 0), .sl 0 [] true, .sc (.int .i64 0)], .box 29 [.sc (.int .i64 8), .sc (.string ⟨#[]⟩), .sc (.int .i64 1), .own 3 1000001, .sc (.int .i64 v1.1)], .row 29 (List.map Node.av (((((([] : List Node) ++ [v15.1]) ++ [v16.1]) ++ [v18.1]) ++ [v19.1]) ++ [v20.1]) ++ [.agg [.sc (.int .i64 0), .sc (.string (ByteArray.mk #[])), .sc (.int .i64 0), .sl 0 [] true, .sc (.int .i64 0)]]) 1000001 true], .u, [.box 44 [.sl 66 (List.map Token.av v22.2.L) false, .sc (.int .i64 v22.2.I), .sc (.int .i64 v22.2.End), .sc (.int .i64 v22.2.Deep), .sc (.int .i64 v22.2.F.E), .sc (.int .i64 v22.2.F.At)], .box 29 [.sc (.int .i64 0), .sc (.string ⟨#[]⟩), .sc (.int .i64 0), .sl 0 [] true, .sc (.int .i64 0)], .box 29 [.sc (.int .i64 8), .sc (.string ⟨#[]⟩), .sc (.int .i64 1), .own 3 1000001, .sc (.int .i64 v1.1)], .row 29 (List.map Node.av ((((((([] : List Node) ++ [v15.1]) ++ [v16.1]) ++ [v18.1]) ++ [v19.1]) ++ [v20.1]) ++ [v22.1])) 1000001 true]⟩, ⟨7, [10], [], .read, [(157, .sc (.int .i64 (((List.map Node.av (((((([] : List Node) ++ [v15.1]) ++ [v16.1]) ++ [v18.1]) ++ [v19.1]) ++ [v20.1])).length : Nat) : Int))), (159, .own 3 1000001)], [.box 44 [.sl 66 (List.map Token.av v22.2.L) false, .sc (.int .i64 v22.2.I), .sc (.int .i64 v22.2.End), .sc (.int .i64 v22.2.Deep), .sc (.int .i64 v22.2.F.E), .sc (.int .i64 v22.2.F.At)], .box 29 [.sc (.int .i64 0), .sc (.string ⟨#[]⟩), .sc (.int .i64 0), .sl 0 [] true, .sc (.int .i64 0)], .box 29 [.sc (.int .i64 8), .sc (.string ⟨#[]⟩), .sc (.int .i64 1), .own 3 1000001, .sc (.int .i64 v1.1)], .row 29 (List.map Node.av (((((([] : List Node) ++ [v15.1]) ++ [v16.1]) ++ [v18.1]) ++ [v19.1]) ++ [v20.1]) ++ [.agg [.sc (.int .i64 0), .sc (.string (ByteArray.mk #[])), .sc (.int .i64 0), .sl 0 [] true, .sc (.int .i64 0)]]) 1000001 true], .el 29 3 1000001 ((List.map Node.av (((((([] : List Node) ++ [v15.1]) ++ [v16.1]) ++ [v18.1]) ++ [v19.1]) ++ [v20.1])).length) 0, [.box 44 [.sl 66 (List.map Token.av v22.2.L) false, .sc (.int .i64 v22.2.I), .sc (.int .i64 v22.2.End), .sc (.int .i64 v22.2.Deep), .sc (.int .i64 v22.2.F.E), .sc (.int .i64 v22.2.F.At)], .box 29 [.sc (.int .i64 0), .sc (.string ⟨#[]⟩), .sc (.int .i64 0), .sl 0 [] true, .sc (.int .i64 0)], .box 29 [.sc (.int .i64 8), .sc (.string ⟨#[]⟩), .sc (.int .i64 1), .own 3 1000001, .sc (.int .i64 v1.1)], .row 29 (List.map Node.av (((((([] : List Node) ++ [v15.1]) ++ [v16.1]) ++ [v18.1]) ++ [v19.1]) ++ [v20.1]) ++ [.agg [.sc (.int .i64 0), .sc (.string (ByteArray.mk #[])), .sc (.int .i64 0), .sl 0 [] true, .sc (.int .i64 0)]]) 1000001 true]⟩] [[0, 1, 2, 3], [0, 1, 2, 3], [0, 1, 2, 3], [0, 1, 2, 3], [0, 1, 2, 3], [0, 1, 2, 3], [0, 1, 2, 3], [0, 1, 2, 3], [0, 1, 2, 3]] (.cons (LQ.ch [0] (H_g_podestaref15_Eye_acts v21.2 v22 hv_v22)) (.cons (LQ.apz Node.av (((((([] : List Node) ++ [v15.1]) ++ [v16.1]) ++ [v18.1]) ++ [v19.1]) ++ [v20.1]) (.agg [.sc (.int .i64 0), .sc (.string (ByteArray.mk #[])), .sc (.int .i64 0), .sl 0 [] true, .sc (.int .i64 0)]) hfit2) (.cons (LQ.xo (app_idx (List.map Node.av (((((([] : List Node) ++ [v15.1]) ++ [v16.1]) ++ [v18.1]) ++ [v19.1]) ++ [v20.1])) (.agg [.sc (.int .i64 0), .sc (.string (ByteArray.mk #[])), .sc (.int .i64 0), .sl 0 [] true, .sc (.int .i64 0)]))) (.cons (LQ.stz Node.av Node.ag Node.av_eq (((((([] : List Node) ++ [v15.1]) ++ [v16.1]) ++ [v18.1]) ++ [v19.1]) ++ [v20.1]) (.agg [.sc (.int .i64 0), .sc (.string (ByteArray.mk #[])), .sc (.int .i64 0), .sl 0 [] true, .sc (.int .i64 0)]) v22.1) (.cons (LQ.stz Node.av Node.ag Node.av_eq (((((([] : List Node) ++ [v15.1]) ++ [v16.1]) ++ [v18.1]) ++ [v19.1]) ++ [v20.1]) (.agg [.sc (.int .i64 0), .sc (.string (ByteArray.mk #[])), .sc (.int .i64 0), .sl 0 [] true, .sc (.int .i64 0)]) v22.1) (.cons (LQ.xo (app_idx (List.map Node.av (((((([] : List Node) ++ [v15.1]) ++ [v16.1]) ++ [v18.1]) ++ [v19.1]) ++ [v20.1])) (.agg [.sc (.int .i64 0), .sc (.string (ByteArray.mk #[])), .sc (.int .i64 0), .sl 0 [] true, .sc (.int .i64 0)]))) .nil)))))) (by kernel_rfl) (.rg (.sg 1 [0,2,4,162] (bndO H fun v23 hv H => (.ch [0,2,4] [0] (podestaref15_Eye_Must_walk v22.2 (ByteArray.mk #[59]) v23 hv) (.dn (.sg 5 [2] ?_)))))))))
                obtain rfl := Option.some.inj H
                exact .ret Try.func36 hc0 [0]
              ·
                refine .sg 2 [0,2,4] (bndO H fun v24 hv_v24 H => (fitH H fun hfit2 H => (.rp hc0 [0, 2, 4] [⟨3, [], [], .loud, [(155, .ptr 0 0 none)], [.box 44 [.sl 66 (List.map Token.av v21.2.L) false, .sc (.int .i64 v21.2.I), .sc (.int .i64 v21.2.End), .sc (.int .i64 v21.2.Deep), .sc (.int .i64 v21.2.F.E), .sc (.int .i64 v21.2.F.At)], .box 29 [.sc (.int .i64 0), .sc (.string ⟨#[]⟩), .sc (.int .i64 0), .sl 0 [] true, .sc (.int .i64 0)], .box 29 [.sc (.int .i64 8), .sc (.string ⟨#[]⟩), .sc (.int .i64 0), .own 3 1000000, .sc (.int .i64 v1.1)], .row 29 (List.map Node.av (((((([] : List Node) ++ [v15.1]) ++ [v16.1]) ++ [v18.1]) ++ [v19.1]) ++ [v20.1])) 1000000 true], Node.ag v24.1, [.box 44 [.sl 66 (List.map Token.av v24.2.L) false, .sc (.int .i64 v24.2.I), .sc (.int .i64 v24.2.End), .sc (.int .i64 v24.2.Deep), .sc (.int .i64 v24.2.F.E), .sc (.int .i64 v24.2.F.At)], .box 29 [.sc (.int .i64 0), .sc (.string ⟨#[]⟩), .sc (.int .i64 0), .sl 0 [] true, .sc (.int .i64 0)], .box 29 [.sc (.int .i64 8), .sc (.string ⟨#[]⟩), .sc (.int .i64 0), .own 3 1000000, .sc (.int .i64 v1.1)], .row 29 (List.map Node.av (((((([] : List Node) ++ [v15.1]) ++ [v16.1]) ++ [v18.1]) ++ [v19.1]) ++ [v20.1])) 1000000 true]⟩, ⟨6, [], [], .loud, [(154, .own 3 1000000), (158, .sl 29 [.agg [.sc (.int .i64 0), .sc (.string (ByteArray.mk #[])), .sc (.int .i64 0), .sl 0 [] true, .sc (.int .i64 0)]] true)], [.box 44 [.sl 66 (List.map Token.av v24.2.L) false, .sc (.int .i64 v24.2.I), .sc (.int .i64 v24.2.End), .sc (.int .i64 v24.2.Deep), .sc (.int .i64 v24.2.F.E), .sc (.int .i64 v24.2.F.At)], .box 29 [.sc (.int .i64 0), .sc (.string ⟨#[]⟩), .sc (.int .i64 0), .sl 0 [] true, .sc (.int .i64 0)], .box 29 [.sc (.int .i64 8), .sc (.string ⟨#[]⟩), .sc (.int .i64 0), .own 3 1000000, .sc (.int .i64 v1.1)], .row 29 (List.map Node.av (((((([] : List Node) ++ [v15.1]) ++ [v16.1]) ++ [v18.1]) ++ [v19.1]) ++ [v20.1])) 1000000 true], .own 3 1000001, [.box 44 [.sl 66 (List.map Token.av v24.2.L) false, .sc (.int .i64 v24.2.I), .sc (.int .i64 v24.2.End), .sc (.int .i64 v24.2.Deep), .sc (.int .i64 v24.2.F.E), .sc (.int .i64 v24.2.F.At)], .box 29 [.sc (.int .i64 0), .sc (.string ⟨#[]⟩), .sc (.int .i64 0), .sl 0 [] true, .sc (.int .i64 0)], .box 29 [.sc (.int .i64 8), .sc (.string ⟨#[]⟩), .sc (.int .i64 0), .own 3 1000000, .sc (.int .i64 v1.1)], .row 29 (List.map Node.av (((((([] : List Node) ++ [v15.1]) ++ [v16.1]) ++ [v18.1]) ++ [v19.1]) ++ [v20.1]) ++ [.agg [.sc (.int .i64 0), .sc (.string (ByteArray.mk #[])), .sc (.int .i64 0), .sl 0 [] true, .sc (.int .i64 0)]]) 1000001 true]⟩, ⟨7, [], [10], .read, [(157, .sc (.int .i64 (((List.map Node.av (((((([] : List Node) ++ [v15.1]) ++ [v16.1]) ++ [v18.1]) ++ [v19.1]) ++ [v20.1])).length : Nat) : Int))), (159, .own 3 1000001)], [.box 44 [.sl 66 (List.map Token.av v24.2.L) false, .sc (.int .i64 v24.2.I), .sc (.int .i64 v24.2.End), .sc (.int .i64 v24.2.Deep), .sc (.int .i64 v24.2.F.E), .sc (.int .i64 v24.2.F.At)], .box 29 [.sc (.int .i64 0), .sc (.string ⟨#[]⟩), .sc (.int .i64 0), .sl 0 [] true, .sc (.int .i64 0)], .box 29 [.sc (.int .i64 8), .sc (.string ⟨#[]⟩), .sc (.int .i64 0), .own 3 1000000, .sc (.int .i64 v1.1)], .row 29 (List.map Node.av (((((([] : List Node) ++ [v15.1]) ++ [v16.1]) ++ [v18.1]) ++ [v19.1]) ++ [v20.1]) ++ [.agg [.sc (.int .i64 0), .sc (.string (ByteArray.mk #[])), .sc (.int .i64 0), .sl 0 [] true, .sc (.int .i64 0)]]) 1000001 true], .el 29 3 1000001 ((List.map Node.av (((((([] : List Node) ++ [v15.1]) ++ [v16.1]) ++ [v18.1]) ++ [v19.1]) ++ [v20.1])).length) 0, [.box 44 [.sl 66 (List.map Token.av v24.2.L) false, .sc (.int .i64 v24.2.I), .sc (.int .i64 v24.2.End), .sc (.int .i64 v24.2.Deep), .sc (.int .i64 v24.2.F.E), .sc (.int .i64 v24.2.F.At)], .box 29 [.sc (.int .i64 0), .sc (.string ⟨#[]⟩), .sc (.int .i64 0), .sl 0 [] true, .sc (.int .i64 0)], .box 29 [.sc (.int .i64 8), .sc (.string ⟨#[]⟩), .sc (.int .i64 0), .own 3 1000000, .sc (.int .i64 v1.1)], .row 29 (List.map Node.av (((((([] : List Node) ++ [v15.1]) ++ [v16.1]) ++ [v18.1]) ++ [v19.1]) ++ [v20.1]) ++ [.agg [.sc (.int .i64 0), .sc (.string (ByteArray.mk #[])), .sc (.int .i64 0), .sl 0 [] true, .sc (.int .i64 0)]]) 1000001 true]⟩, ⟨8, [], [10], .loud, [(156, Node.ag v24.1), (160, .el 29 3 1000001 ((List.map Node.av (((((([] : List Node) ++ [v15.1]) ++ [v16.1]) ++ [v18.1]) ++ [v19.1]) ++ [v20.1])).length) 0)], [.box 44 [.sl 66 (List.map Token.av v24.2.L) false, .sc (.int .i64 v24.2.I), .sc (.int .i64 v24.2.End), .sc (.int .i64 v24.2.Deep), .sc (.int .i64 v24.2.F.E), .sc (.int .i64 v24.2.F.At)], .box 29 [.sc (.int .i64 0), .sc (.string ⟨#[]⟩), .sc (.int .i64 0), .sl 0 [] true, .sc (.int .i64 0)], .box 29 [.sc (.int .i64 8), .sc (.string ⟨#[]⟩), .sc (.int .i64 0), .own 3 1000000, .sc (.int .i64 v1.1)], .row 29 (List.map Node.av (((((([] : List Node) ++ [v15.1]) ++ [v16.1]) ++ [v18.1]) ++ [v19.1]) ++ [v20.1]) ++ [.agg [.sc (.int .i64 0), .sc (.string (ByteArray.mk #[])), .sc (.int .i64 0), .sl 0 [] true, .sc (.int .i64 0)]]) 1000001 true], .u, [.box 44 [.sl 66 (List.map Token.av v24.2.L) false, .sc (.int .i64 v24.2.I), .sc (.int .i64 v24.2.End), .sc (.int .i64 v24.2.Deep), .sc (.int .i64 v24.2.F.E), .sc (.int .i64 v24.2.F.At)], .box 29 [.sc (.int .i64 0), .sc (.string ⟨#[]⟩), .sc (.int .i64 0), .sl 0 [] true, .sc (.int .i64 0)], .box 29 [.sc (.int .i64 8), .sc (.string ⟨#[]⟩), .sc (.int .i64 0), .own 3 1000000, .sc (.int .i64 v1.1)], .row 29 (List.map Node.av ((((((([] : List Node) ++ [v15.1]) ++ [v16.1]) ++ [v18.1]) ++ [v19.1]) ++ [v20.1]) ++ [v24.1])) 1000001 true]⟩, ⟨8, [10], [], .loud, [(156, Node.ag v24.1), (160, .el 29 3 1000001 ((List.map Node.av (((((([] : List Node) ++ [v15.1]) ++ [v16.1]) ++ [v18.1]) ++ [v19.1]) ++ [v20.1])).length) 0)], [.box 44 [.sl 66 (List.map Token.av v24.2.L) false, .sc (.int .i64 v24.2.I), .sc (.int .i64 v24.2.End), .sc (.int .i64 v24.2.Deep), .sc (.int .i64 v24.2.F.E), .sc (.int .i64 v24.2.F.At)], .box 29 [.sc (.int .i64 0), .sc (.string ⟨#[]⟩), .sc (.int .i64 0), .sl 0 [] true, .sc (.int .i64 0)], .box 29 [.sc (.int .i64 8), .sc (.string ⟨#[]⟩), .sc (.int .i64 0), .own 3 1000001, .sc (.int .i64 v1.1)], .row 29 (List.map Node.av (((((([] : List Node) ++ [v15.1]) ++ [v16.1]) ++ [v18.1]) ++ [v19.1]) ++ [v20.1]) ++ [.agg [.sc (.int .i64 0), .sc (.string (ByteArray.mk #[])), .sc (.int .i64 0), .sl 0 [] true, .sc (.int .i64 0)]]) 1000001 true], .u, [.box 44 [.sl 66 (List.map Token.av v24.2.L) false, .sc (.int .i64 v24.2.I), .sc (.int .i64 v24.2.End), .sc (.int .i64 v24.2.Deep), .sc (.int .i64 v24.2.F.E), .sc (.int .i64 v24.2.F.At)], .box 29 [.sc (.int .i64 0), .sc (.string ⟨#[]⟩), .sc (.int .i64 0), .sl 0 [] true, .sc (.int .i64 0)], .box 29 [.sc (.int .i64 8), .sc (.string ⟨#[]⟩), .sc (.int .i64 0), .own 3 1000001, .sc (.int .i64 v1.1)], .row 29 (List.map Node.av ((((((([] : List Node) ++ [v15.1]) ++ [v16.1]) ++ [v18.1]) ++ [v19.1]) ++ [v20.1]) ++ [v24.1])) 1000001 true]⟩, ⟨7, [10], [], .read, [(157, .sc (.int .i64 (((List.map Node.av (((((([] : List Node) ++ [v15.1]) ++ [v16.1]) ++ [v18.1]) ++ [v19.1]) ++ [v20.1])).length : Nat) : Int))), (159, .own 3 1000001)], [.box 44 [.sl 66 (List.map Token.av v24.2.L) false, .sc (.int .i64 v24.2.I), .sc (.int .i64 v24.2.End), .sc (.int .i64 v24.2.Deep), .sc (.int .i64 v24.2.F.E), .sc (.int .i64 v24.2.F.At)], .box 29 [.sc (.int .i64 0), .sc (.string ⟨#[]⟩), .sc (.int .i64 0), .sl 0 [] true, .sc (.int .i64 0)], .box 29 [.sc (.int .i64 8), .sc (.string ⟨#[]⟩), .sc (.int .i64 0), .own 3 1000001, .sc (.int .i64 v1.1)], .row 29 (List.map Node.av (((((([] : List Node) ++ [v15.1]) ++ [v16.1]) ++ [v18.1]) ++ [v19.1]) ++ [v20.1]) ++ [.agg [.sc (.int .i64 0), .sc (.string (ByteArray.mk #[])), .sc (.int .i64 0), .sl 0 [] true, .sc (.int .i64 0)]]) 1000001 true], .el 29 3 1000001 ((List.map Node.av (((((([] : List Node) ++ [v15.1]) ++ [v16.1]) ++ [v18.1]) ++ [v19.1]) ++ [v20.1])).length) 0, [.box 44 [.sl 66 (List.map Token.av v24.2.L) false, .sc (.int .i64 v24.2.I), .sc (.int .i64 v24.2.End), .sc (.int .i64 v24.2.Deep), .sc (.int .i64 v24.2.F.E), .sc (.int .i64 v24.2.F.At)], .box 29 [.sc (.int .i64 0), .sc (.string ⟨#[]⟩), .sc (.int .i64 0), .sl 0 [] true, .sc (.int .i64 0)], .box 29 [.sc (.int .i64 8), .sc (.string ⟨#[]⟩), .sc (.int .i64 0), .own 3 1000001, .sc (.int .i64 v1.1)], .row 29 (List.map Node.av (((((([] : List Node) ++ [v15.1]) ++ [v16.1]) ++ [v18.1]) ++ [v19.1]) ++ [v20.1]) ++ [.agg [.sc (.int .i64 0), .sc (.string (ByteArray.mk #[])), .sc (.int .i64 0), .sl 0 [] true, .sc (.int .i64 0)]]) 1000001 true]⟩] [[0, 1, 2, 3], [0, 1, 2, 3], [0, 1, 2, 3], [0, 1, 2, 3], [0, 1, 2, 3], [0, 1, 2, 3], [0, 1, 2, 3], [0, 1, 2, 3], [0, 1, 2, 3]] (.cons (LQ.ch [0] (H_g_podestaref15_Eye_acts v21.2 v24 hv_v24)) (.cons (LQ.apz Node.av (((((([] : List Node) ++ [v15.1]) ++ [v16.1]) ++ [v18.1]) ++ [v19.1]) ++ [v20.1]) (.agg [.sc (.int .i64 0), .sc (.string (ByteArray.mk #[])), .sc (.int .i64 0), .sl 0 [] true, .sc (.int .i64 0)]) hfit2) (.cons (LQ.xo (app_idx (List.map Node.av (((((([] : List Node) ++ [v15.1]) ++ [v16.1]) ++ [v18.1]) ++ [v19.1]) ++ [v20.1])) (.agg [.sc (.int .i64 0), .sc (.string (ByteArray.mk #[])), .sc (.int .i64 0), .sl 0 [] true, .sc (.int .i64 0)]))) (.cons (LQ.stz Node.av Node.ag Node.av_eq (((((([] : List Node) ++ [v15.1]) ++ [v16.1]) ++ [v18.1]) ++ [v19.1]) ++ [v20.1]) (.agg [.sc (.int .i64 0), .sc (.string (ByteArray.mk #[])), .sc (.int .i64 0), .sl 0 [] true, .sc (.int .i64 0)]) v24.1) (.cons (LQ.stz Node.av Node.ag Node.av_eq (((((([] : List Node) ++ [v15.1]) ++ [v16.1]) ++ [v18.1]) ++ [v19.1]) ++ [v20.1]) (.agg [.sc (.int .i64 0), .sc (.string (ByteArray.mk #[])), .sc (.int .i64 0), .sl 0 [] true, .sc (.int .i64 0)]) v24.1) (.cons (LQ.xo (app_idx (List.map Node.av (((((([] : List Node) ++ [v15.1]) ++ [v16.1]) ++ [v18.1]) ++ [v19.1]) ++ [v20.1])) (.agg [.sc (.int .i64 0), .sc (.string (ByteArray.mk #[])), .sc (.int .i64 0), .sl 0 [] true, .sc (.int .i64 0)]))) .nil)))))) (by kernel_rfl) (.rg (.sg 1 [0,2,4,162] (bndO H fun v25 hv H => (.ch [0,2,4] [0] (podestaref15_Eye_Must_walk v24.2 (ByteArray.mk #[59]) v25 hv) (.dn (.sg 5 [2] ?_)))))))))
                obtain rfl := Option.some.inj H
                exact .ret Try.func36 hc0 [0]
            ·
              refine .sg 1 [0,2,4] (.rg (.sg 1 [0,2,4,165] (bndO H fun v26 hv H => (.ch [0,2,4,166] [0] (podestaref15_Eye_Eat_walk v14.2 (ByteArray.mk #[100, 101, 108]) v26 hv) (.sg 1 [0,2,4,164] (.dn (.cd v26.1 H (fun hb H => ?_) (fun hb H => ?_))))))))
              ·
                refine .sg 2 [0,2,4] (.rg (.sg 1 [0,2,4,168] (bndO H fun v27 hv H => (.ch [0,2,4] [0,2,3] (H_g_podestaref15_Eye_rest v26.2 ({ Kind := 9, Text := ⟨#[]⟩, Num := 0, Kids := ([] : List Node), At := v1.1 } : Node) false v27 hv) (.dn (.sg 5 [2] ?_))))))
                obtain rfl := Option.some.inj H
                exact .ret Try.func36 hc0 [0]
              ·
                refine .sg 1 [0,2,4] (.rg (.sg 1 [0,2,4,171] (bndO H fun v28 hv H => (.ch [0,2,4,172] [0] (podestaref15_Eye_Eat_walk v26.2 (ByteArray.mk #[109, 111, 100]) v28 hv) (.sg 1 [0,2,4,170] (.dn (.cd v28.1 H (fun hb H => ?_) (fun hb H => ?_))))))))
                ·
                  refine .sg 2 [0,2,4] (.rg (.sg 1 [0,2,4,174] (bndO H fun v29 hv H => (.ch [0,2,4] [0,2,3] (H_g_podestaref15_Eye_rest v28.2 ({ Kind := 10, Text := ⟨#[]⟩, Num := 0, Kids := ([] : List Node), At := v1.1 } : Node) true v29 hv) (.dn (.sg 5 [2] ?_))))))
                  obtain rfl := Option.some.inj H
                  exact .ret Try.func36 hc0 [0]
                ·
                  refine .sg 3 [0,2,4] (.rg (.sg 1 [0,2,4,14] (bndO H fun v30 hv H => (.ch [0,2,4,15] [0] (podestaref15_Eye_Name_walk v28.2 v30 hv) (.sg 2 [0,2,4] (.dn (.sg 1 [0,2,4] (.rg (.sg 1 [0,2,4,17] (bndO H fun v31 hv H => (.ch [0,2,4] [0] (podestaref15_Eye_Must_walk v30.2 (ByteArray.mk #[61]) v31 hv) (.dn (.sg 1 [0,2,4] (bndO H fun v32 hv_v32 H => (fitH H fun hfit2 H => (.rp hc0 [0, 2, 4] [⟨3, [], [], .loud, [(21, .ptr 0 0 none)], [.box 44 [.sl 66 (List.map Token.av v31.L) false, .sc (.int .i64 v31.I), .sc (.int .i64 v31.End), .sc (.int .i64 v31.Deep), .sc (.int .i64 v31.F.E), .sc (.int .i64 v31.F.At)], .box 29 [.sc (.int .i64 0), .sc (.string ⟨#[]⟩), .sc (.int .i64 0), .sl 0 [] true, .sc (.int .i64 0)], .box 29 [.sc (.int .i64 4), .sc (.string v30.1), .sc (.int .i64 0), .own 3 1000000, .sc (.int .i64 v1.1)], .row 29 (List.map Node.av ([] : List Node)) 1000000 true], Node.ag v32.1, [.box 44 [.sl 66 (List.map Token.av v32.2.L) false, .sc (.int .i64 v32.2.I), .sc (.int .i64 v32.2.End), .sc (.int .i64 v32.2.Deep), .sc (.int .i64 v32.2.F.E), .sc (.int .i64 v32.2.F.At)], .box 29 [.sc (.int .i64 0), .sc (.string ⟨#[]⟩), .sc (.int .i64 0), .sl 0 [] true, .sc (.int .i64 0)], .box 29 [.sc (.int .i64 4), .sc (.string v30.1), .sc (.int .i64 0), .own 3 1000000, .sc (.int .i64 v1.1)], .row 29 (List.map Node.av ([] : List Node)) 1000000 true]⟩, ⟨6, [], [], .loud, [(20, .own 3 1000000), (24, .sl 29 [.agg [.sc (.int .i64 0), .sc (.string (ByteArray.mk #[])), .sc (.int .i64 0), .sl 0 [] true, .sc (.int .i64 0)]] true)], [.box 44 [.sl 66 (List.map Token.av v32.2.L) false, .sc (.int .i64 v32.2.I), .sc (.int .i64 v32.2.End), .sc (.int .i64 v32.2.Deep), .sc (.int .i64 v32.2.F.E), .sc (.int .i64 v32.2.F.At)], .box 29 [.sc (.int .i64 0), .sc (.string ⟨#[]⟩), .sc (.int .i64 0), .sl 0 [] true, .sc (.int .i64 0)], .box 29 [.sc (.int .i64 4), .sc (.string v30.1), .sc (.int .i64 0), .own 3 1000000, .sc (.int .i64 v1.1)], .row 29 (List.map Node.av ([] : List Node)) 1000000 true], .own 3 1000001, [.box 44 [.sl 66 (List.map Token.av v32.2.L) false, .sc (.int .i64 v32.2.I), .sc (.int .i64 v32.2.End), .sc (.int .i64 v32.2.Deep), .sc (.int .i64 v32.2.F.E), .sc (.int .i64 v32.2.F.At)], .box 29 [.sc (.int .i64 0), .sc (.string ⟨#[]⟩), .sc (.int .i64 0), .sl 0 [] true, .sc (.int .i64 0)], .box 29 [.sc (.int .i64 4), .sc (.string v30.1), .sc (.int .i64 0), .own 3 1000000, .sc (.int .i64 v1.1)], .row 29 (List.map Node.av ([] : List Node) ++ [.agg [.sc (.int .i64 0), .sc (.string (ByteArray.mk #[])), .sc (.int .i64 0), .sl 0 [] true, .sc (.int .i64 0)]]) 1000001 true]⟩, ⟨7, [], [10], .read, [(23, .sc (.int .i64 (((List.map Node.av ([] : List Node)).length : Nat) : Int))), (25, .own 3 1000001)], [.box 44 [.sl 66 (List.map Token.av v32.2.L) false, .sc (.int .i64 v32.2.I), .sc (.int .i64 v32.2.End), .sc (.int .i64 v32.2.Deep), .sc (.int .i64 v32.2.F.E), .sc (.int .i64 v32.2.F.At)], .box 29 [.sc (.int .i64 0), .sc (.string ⟨#[]⟩), .sc (.int .i64 0), .sl 0 [] true, .sc (.int .i64 0)], .box 29 [.sc (.int .i64 4), .sc (.string v30.1), .sc (.int .i64 0), .own 3 1000000, .sc (.int .i64 v1.1)], .row 29 (List.map Node.av ([] : List Node) ++ [.agg [.sc (.int .i64 0), .sc (.string (ByteArray.mk #[])), .sc (.int .i64 0), .sl 0 [] true, .sc (.int .i64 0)]]) 1000001 true], .el 29 3 1000001 ((List.map Node.av ([] : List Node)).length) 0, [.box 44 [.sl 66 (List.map Token.av v32.2.L) false, .sc (.int .i64 v32.2.I), .sc (.int .i64 v32.2.End), .sc (.int .i64 v32.2.Deep), .sc (.int .i64 v32.2.F.E), .sc (.int .i64 v32.2.F.At)], .box 29 [.sc (.int .i64 0), .sc (.string ⟨#[]⟩), .sc (.int .i64 0), .sl 0 [] true, .sc (.int .i64 0)], .box 29 [.sc (.int .i64 4), .sc (.string v30.1), .sc (.int .i64 0), .own 3 1000000, .sc (.int .i64 v1.1)], .row 29 (List.map Node.av ([] : List Node) ++ [.agg [.sc (.int .i64 0), .sc (.string (ByteArray.mk #[])), .sc (.int .i64 0), .sl 0 [] true, .sc (.int .i64 0)]]) 1000001 true]⟩, ⟨8, [], [10], .loud, [(22, Node.ag v32.1), (26, .el 29 3 1000001 ((List.map Node.av ([] : List Node)).length) 0)], [.box 44 [.sl 66 (List.map Token.av v32.2.L) false, .sc (.int .i64 v32.2.I), .sc (.int .i64 v32.2.End), .sc (.int .i64 v32.2.Deep), .sc (.int .i64 v32.2.F.E), .sc (.int .i64 v32.2.F.At)], .box 29 [.sc (.int .i64 0), .sc (.string ⟨#[]⟩), .sc (.int .i64 0), .sl 0 [] true, .sc (.int .i64 0)], .box 29 [.sc (.int .i64 4), .sc (.string v30.1), .sc (.int .i64 0), .own 3 1000000, .sc (.int .i64 v1.1)], .row 29 (List.map Node.av ([] : List Node) ++ [.agg [.sc (.int .i64 0), .sc (.string (ByteArray.mk #[])), .sc (.int .i64 0), .sl 0 [] true, .sc (.int .i64 0)]]) 1000001 true], .u, [.box 44 [.sl 66 (List.map Token.av v32.2.L) false, .sc (.int .i64 v32.2.I), .sc (.int .i64 v32.2.End), .sc (.int .i64 v32.2.Deep), .sc (.int .i64 v32.2.F.E), .sc (.int .i64 v32.2.F.At)], .box 29 [.sc (.int .i64 0), .sc (.string ⟨#[]⟩), .sc (.int .i64 0), .sl 0 [] true, .sc (.int .i64 0)], .box 29 [.sc (.int .i64 4), .sc (.string v30.1), .sc (.int .i64 0), .own 3 1000000, .sc (.int .i64 v1.1)], .row 29 (List.map Node.av (([] : List Node) ++ [v32.1])) 1000001 true]⟩, ⟨8, [10], [], .loud, [(22, Node.ag v32.1), (26, .el 29 3 1000001 ((List.map Node.av ([] : List Node)).length) 0)], [.box 44 [.sl 66 (List.map Token.av v32.2.L) false, .sc (.int .i64 v32.2.I), .sc (.int .i64 v32.2.End), .sc (.int .i64 v32.2.Deep), .sc (.int .i64 v32.2.F.E), .sc (.int .i64 v32.2.F.At)], .box 29 [.sc (.int .i64 0), .sc (.string ⟨#[]⟩), .sc (.int .i64 0), .sl 0 [] true, .sc (.int .i64 0)], .box 29 [.sc (.int .i64 4), .sc (.string v30.1), .sc (.int .i64 0), .own 3 1000001, .sc (.int .i64 v1.1)], .row 29 (List.map Node.av ([] : List Node) ++ [.agg [.sc (.int .i64 0), .sc (.string (ByteArray.mk #[])), .sc (.int .i64 0), .sl 0 [] true, .sc (.int .i64 0)]]) 1000001 true], .u, [.box 44 [.sl 66 (List.map Token.av v32.2.L) false, .sc (.int .i64 v32.2.I), .sc (.int .i64 v32.2.End), .sc (.int .i64 v32.2.Deep), .sc (.int .i64 v32.2.F.E), .sc (.int .i64 v32.2.F.At)], .box 29 [.sc (.int .i64 0), .sc (.string ⟨#[]⟩), .sc (.int .i64 0), .sl 0 [] true, .sc (.int .i64 0)], .box 29 [.sc (.int .i64 4), .sc (.string v30.1), .sc (.int .i64 0), .own 3 1000001, .sc (.int .i64 v1.1)], .row 29 (List.map Node.av (([] : List Node) ++ [v32.1])) 1000001 true]⟩, ⟨7, [10], [], .read, [(23, .sc (.int .i64 (((List.map Node.av ([] : List Node)).length : Nat) : Int))), (25, .own 3 1000001)], [.box 44 [.sl 66 (List.map Token.av v32.2.L) false, .sc (.int .i64 v32.2.I), .sc (.int .i64 v32.2.End), .sc (.int .i64 v32.2.Deep), .sc (.int .i64 v32.2.F.E), .sc (.int .i64 v32.2.F.At)], .box 29 [.sc (.int .i64 0), .sc (.string ⟨#[]⟩), .sc (.int .i64 0), .sl 0 [] true, .sc (.int .i64 0)], .box 29 [.sc (.int .i64 4), .sc (.string v30.1), .sc (.int .i64 0), .own 3 1000001, .sc (.int .i64 v1.1)], .row 29 (List.map Node.av ([] : List Node) ++ [.agg [.sc (.int .i64 0), .sc (.string (ByteArray.mk #[])), .sc (.int .i64 0), .sl 0 [] true, .sc (.int .i64 0)]]) 1000001 true], .el 29 3 1000001 ((List.map Node.av ([] : List Node)).length) 0, [.box 44 [.sl 66 (List.map Token.av v32.2.L) false, .sc (.int .i64 v32.2.I), .sc (.int .i64 v32.2.End), .sc (.int .i64 v32.2.Deep), .sc (.int .i64 v32.2.F.E), .sc (.int .i64 v32.2.F.At)], .box 29 [.sc (.int .i64 0), .sc (.string ⟨#[]⟩), .sc (.int .i64 0), .sl 0 [] true, .sc (.int .i64 0)], .box 29 [.sc (.int .i64 4), .sc (.string v30.1), .sc (.int .i64 0), .own 3 1000001, .sc (.int .i64 v1.1)], .row 29 (List.map Node.av ([] : List Node) ++ [.agg [.sc (.int .i64 0), .sc (.string (ByteArray.mk #[])), .sc (.int .i64 0), .sl 0 [] true, .sc (.int .i64 0)]]) 1000001 true]⟩] [[0, 1, 2, 3], [0, 1, 2, 3], [0, 1, 2, 3], [0, 1, 2, 3], [0, 1, 2, 3], [0, 1, 2, 3], [0, 1, 2, 3], [0, 1, 2, 3], [0, 1, 2, 3]] (.cons (LQ.ch [0] (H_g_podestaref15_Eye_Expr v31 true v32 hv_v32)) (.cons (LQ.apz Node.av ([] : List Node) (.agg [.sc (.int .i64 0), .sc (.string (ByteArray.mk #[])), .sc (.int .i64 0), .sl 0 [] true, .sc (.int .i64 0)]) hfit2) (.cons (LQ.xo (app_idx (List.map Node.av ([] : List Node)) (.agg [.sc (.int .i64 0), .sc (.string (ByteArray.mk #[])), .sc (.int .i64 0), .sl 0 [] true, .sc (.int .i64 0)]))) (.cons (LQ.stz Node.av Node.ag Node.av_eq ([] : List Node) (.agg [.sc (.int .i64 0), .sc (.string (ByteArray.mk #[])), .sc (.int .i64 0), .sl 0 [] true, .sc (.int .i64 0)]) v32.1) (.cons (LQ.stz Node.av Node.ag Node.av_eq ([] : List Node) (.agg [.sc (.int .i64 0), .sc (.string (ByteArray.mk #[])), .sc (.int .i64 0), .sl 0 [] true, .sc (.int .i64 0)]) v32.1) (.cons (LQ.xo (app_idx (List.map Node.av ([] : List Node)) (.agg [.sc (.int .i64 0), .sc (.string (ByteArray.mk #[])), .sc (.int .i64 0), .sl 0 [] true, .sc (.int .i64 0)]))) .nil)))))) (by kernel_rfl) (.rg (.sg 1 [0,2,4,28] (bndO H fun v33 hv H => (.ch [0,2,4] [0] (podestaref15_Eye_Must_walk v32.2 (ByteArray.mk #[59]) v33 hv) (.dn (.sg 5 [2] ?_))))))))))))))))))))))
                  obtain rfl := Option.some.inj H
                  exact .ret Try.func36 hc0 [0]

/-! ### (*podesta/podestaref15.Eye).block: function 20 -/
noncomputable def podestaref15_Eye_block_F : Go.Sh.Fn := ⟨20, bodyOf Try.f20, 30⟩
def podestaref15_Eye_block_l0 (g_podestaref15_Eye_stmt : Eye → Option (Node × Eye)) : Nat → List Token → Int → Int → Int → Int → Int → List Node → Option ((List Token) × Int × Int × Int × Int × Int × (List Node))
  | 0, _, _, _, _, _, _, _ => none
  | m + 1, x_0, x_1, x_2, x_3, x_4_0, x_4_1, o3 =>
    (bif (x_4_0 == 0) then
    (podestaref15_Eye_See_raw ({ L := x_0, I := x_1, End := x_2, Deep := x_3, F := ({ E := x_4_0, At := x_4_1 } : Fault) } : Eye)).bind fun v2 =>
    (bif (v2.1 != (ByteArray.mk #[125])) then
      (g_podestaref15_Eye_stmt v2.2).bind fun v3 =>
      fitO (o3.length + [v3.1].length) 64 (
      podestaref15_Eye_block_l0 g_podestaref15_Eye_stmt m v3.2.L v3.2.I v3.2.End v3.2.Deep v3.2.F.E v3.2.F.At (o3 ++ [v3.1]))
    else
      some (v2.2.L, v2.2.I, v2.2.End, v2.2.Deep, v2.2.F.E, v2.2.F.At, o3))
  else
    some (x_0, x_1, x_2, x_3, x_4_0, x_4_1, o3))
theorem podestaref15_Eye_block_l0_walk (q0 : Nat) (g_podestaref15_Eye_one : Eye → Option (Node × Eye)) (H_g_podestaref15_Eye_one : ∀ (x : Eye) (r : Node × Eye) (H : g_podestaref15_Eye_one x = some r), ACalls Try.prog tab.S 58 [.ptr 0 0 none] [.box 44 [.sl 66 (List.map Token.av x.L) false, .sc (.int .i64 x.I), .sc (.int .i64 x.End), .sc (.int .i64 x.Deep), .sc (.int .i64 x.F.E), .sc (.int .i64 x.F.At)]] (Node.ag r.1) [.box 44 [.sl 66 (List.map Token.av r.2.L) false, .sc (.int .i64 r.2.I), .sc (.int .i64 r.2.End), .sc (.int .i64 r.2.Deep), .sc (.int .i64 r.2.F.E), .sc (.int .i64 r.2.F.At)]]) (g_podestaref15_Eye_part : Eye → Int → Bool → Option (Node × Eye)) (H_g_podestaref15_Eye_part : ∀ (x : Eye) (k1 : Int) (stroke : Bool) (r : Node × Eye) (H : g_podestaref15_Eye_part x k1 stroke = some r), ACalls Try.prog tab.S 53 [.ptr 0 0 none, .sc (.int .i64 k1), .sc (.bool stroke)] [.box 44 [.sl 66 (List.map Token.av x.L) false, .sc (.int .i64 x.I), .sc (.int .i64 x.End), .sc (.int .i64 x.Deep), .sc (.int .i64 x.F.E), .sc (.int .i64 x.F.At)]] (Node.ag r.1) [.box 44 [.sl 66 (List.map Token.av r.2.L) false, .sc (.int .i64 r.2.I), .sc (.int .i64 r.2.End), .sc (.int .i64 r.2.Deep), .sc (.int .i64 r.2.F.E), .sc (.int .i64 r.2.F.At)]]) (g_podestaref15_Eye_Expr : Eye → Bool → Option (Node × Eye)) (H_g_podestaref15_Eye_Expr : ∀ (x : Eye) (stroke : Bool) (r : Node × Eye) (H : g_podestaref15_Eye_Expr x stroke = some r), ACalls Try.prog tab.S 43 [.ptr 0 0 none, .sc (.bool stroke)] [.box 44 [.sl 66 (List.map Token.av x.L) false, .sc (.int .i64 x.I), .sc (.int .i64 x.End), .sc (.int .i64 x.Deep), .sc (.int .i64 x.F.E), .sc (.int .i64 x.F.At)]] (Node.ag r.1) [.box 44 [.sl 66 (List.map Token.av r.2.L) false, .sc (.int .i64 r.2.I), .sc (.int .i64 r.2.End), .sc (.int .i64 r.2.Deep), .sc (.int .i64 r.2.F.E), .sc (.int .i64 r.2.F.At)]]) (g_podestaref15_Eye_match : Eye → Option (Node × Eye)) (H_g_podestaref15_Eye_match : ∀ (x : Eye) (r : Node × Eye) (H : g_podestaref15_Eye_match x = some r), ACalls Try.prog tab.S 44 [.ptr 0 0 none] [.box 44 [.sl 66 (List.map Token.av x.L) false, .sc (.int .i64 x.I), .sc (.int .i64 x.End), .sc (.int .i64 x.Deep), .sc (.int .i64 x.F.E), .sc (.int .i64 x.F.At)]] (Node.ag r.1) [.box 44 [.sl 66 (List.map Token.av r.2.L) false, .sc (.int .i64 r.2.I), .sc (.int .i64 r.2.End), .sc (.int .i64 r.2.Deep), .sc (.int .i64 r.2.F.E), .sc (.int .i64 r.2.F.At)]]) (g_podestaref15_Eye_given : Eye → ByteArray → Int → Option (Node × Eye)) (H_g_podestaref15_Eye_given : ∀ (x : Eye) (s : ByteArray) (at_ : Int) (r : Node × Eye) (H : g_podestaref15_Eye_given x s at_ = some r), ACalls Try.prog tab.S 45 [.ptr 0 0 none, .sc (.string s), .sc (.int .i64 at_)] [.box 44 [.sl 66 (List.map Token.av x.L) false, .sc (.int .i64 x.I), .sc (.int .i64 x.End), .sc (.int .i64 x.Deep), .sc (.int .i64 x.F.E), .sc (.int .i64 x.F.At)]] (Node.ag r.1) [.box 44 [.sl 66 (List.map Token.av r.2.L) false, .sc (.int .i64 r.2.I), .sc (.int .i64 r.2.End), .sc (.int .i64 r.2.Deep), .sc (.int .i64 r.2.F.E), .sc (.int .i64 r.2.F.At)]]) (g_podestaref15_Eye_acts : Eye → Option (Node × Eye)) (H_g_podestaref15_Eye_acts : ∀ (x : Eye) (r : Node × Eye) (H : g_podestaref15_Eye_acts x = some r), ACalls Try.prog tab.S 46 [.ptr 0 0 none] [.box 44 [.sl 66 (List.map Token.av x.L) false, .sc (.int .i64 x.I), .sc (.int .i64 x.End), .sc (.int .i64 x.Deep), .sc (.int .i64 x.F.E), .sc (.int .i64 x.F.At)]] (Node.ag r.1) [.box 44 [.sl 66 (List.map Token.av r.2.L) false, .sc (.int .i64 r.2.I), .sc (.int .i64 r.2.End), .sc (.int .i64 r.2.Deep), .sc (.int .i64 r.2.F.E), .sc (.int .i64 r.2.F.At)]]) (g_podestaref15_Eye_rest : Eye → Node → Bool → Option (Eye × Node)) (H_g_podestaref15_Eye_rest : ∀ (x : Eye) (n : Node) (acts : Bool) (r : Eye × Node) (H : g_podestaref15_Eye_rest x n acts = some r), ACalls Try.prog tab.S 47 [.ptr 0 0 none, .ptr 1 0 none, .sc (.bool acts)] [.box 44 [.sl 66 (List.map Token.av x.L) false, .sc (.int .i64 x.I), .sc (.int .i64 x.End), .sc (.int .i64 x.Deep), .sc (.int .i64 x.F.E), .sc (.int .i64 x.F.At)], .box 29 [.sc (.int .i64 n.Kind), .sc (.string n.Text), .sc (.int .i64 n.Num), .own 2 1000000, .sc (.int .i64 n.At)], .row 29 (List.map Node.av n.Kids) 1000000 true] (.tup []) [.box 44 [.sl 66 (List.map Token.av r.1.L) false, .sc (.int .i64 r.1.I), .sc (.int .i64 r.1.End), .sc (.int .i64 r.1.Deep), .sc (.int .i64 r.1.F.E), .sc (.int .i64 r.1.F.At)], .box 29 [.sc (.int .i64 r.2.Kind), .sc (.string r.2.Text), .sc (.int .i64 r.2.Num), .own 2 1000000, .sc (.int .i64 r.2.At)], .row 29 (List.map Node.av r.2.Kids) 1000000 true]) (g_podestaref15_Eye_stmt : Eye → Option (Node × Eye)) (H_g_podestaref15_Eye_stmt : ∀ (x : Eye) (r : Node × Eye) (H : g_podestaref15_Eye_stmt x = some r), ACalls Try.prog tab.S 36 [.ptr 0 0 none] [.box 44 [.sl 66 (List.map Token.av x.L) false, .sc (.int .i64 x.I), .sc (.int .i64 x.End), .sc (.int .i64 x.Deep), .sc (.int .i64 x.F.E), .sc (.int .i64 x.F.At)]] (Node.ag r.1) [.box 44 [.sl 66 (List.map Token.av r.2.L) false, .sc (.int .i64 r.2.I), .sc (.int .i64 r.2.End), .sc (.int .i64 r.2.Deep), .sc (.int .i64 r.2.F.E), .sc (.int .i64 r.2.F.At)]]) (g_podestaref15_Eye_block : Eye → Option (Node × Eye)) (H_g_podestaref15_Eye_block : ∀ (x : Eye) (r : Node × Eye) (H : g_podestaref15_Eye_block x = some r), ACalls Try.prog tab.S 20 [.ptr 0 0 none] [.box 44 [.sl 66 (List.map Token.av x.L) false, .sc (.int .i64 x.I), .sc (.int .i64 x.End), .sc (.int .i64 x.Deep), .sc (.int .i64 x.F.E), .sc (.int .i64 x.F.At)]] (Node.ag r.1) [.box 44 [.sl 66 (List.map Token.av r.2.L) false, .sc (.int .i64 r.2.I), .sc (.int .i64 r.2.End), .sc (.int .i64 r.2.Deep), .sc (.int .i64 r.2.F.E), .sc (.int .i64 r.2.F.At)]]) (x : Eye) (v : Int × Eye) (v1 : Eye)  (r : Node × Eye) (c0 : Ctx) (hc0 : c0.m.length = 1) (res : (List Token) × Int × Int × Int × Int × Int × (List Node)) (J : AX Try.prog tab podestaref15_Eye_block_F c0 (Rp tab.S c0 (Node.ag r.1) [.box 44 [.sl 66 (List.map Token.av r.2.L) false, .sc (.int .i64 r.2.I), .sc (.int .i64 r.2.End), .sc (.int .i64 r.2.Deep), .sc (.int .i64 r.2.F.E), .sc (.int .i64 r.2.F.At)]]) (some ⟨[.code [1, 1, 1, 1]], [(0, .ptr 0 0 none), (2, .ptr 1 0 none), (3, .ptr 2 0 none)], [.box 44 [.sl 66 (List.map Token.av res.1) false, .sc (.int .i64 res.2.1), .sc (.int .i64 res.2.2.1), .sc (.int .i64 res.2.2.2.1), .sc (.int .i64 res.2.2.2.2.1), .sc (.int .i64 res.2.2.2.2.2.1)], .box 29 [.sc (.int .i64 0), .sc (.string ⟨#[]⟩), .sc (.int .i64 0), .sl 0 [] true, .sc (.int .i64 0)], .box 29 [.sc (.int .i64 7), .sc (.string ⟨#[]⟩), .sc (.int .i64 0), .own 3 1000000, .sc (.int .i64 v.1)], .row 29 (List.map Node.av res.2.2.2.2.2.2) 1000000 true]⟩)) :
    ∀ (m : Nat) (x_0 : List Token) (x_1 : Int) (x_2 : Int) (x_3 : Int) (x_4_0 : Int) (x_4_1 : Int) (o3 : List Node) (H : podestaref15_Eye_block_l0 g_podestaref15_Eye_stmt m x_0 x_1 x_2 x_3 x_4_0 x_4_1 o3 = some res), AX Try.prog tab podestaref15_Eye_block_F c0 (Rp tab.S c0 (Node.ag r.1) [.box 44 [.sl 66 (List.map Token.av r.2.L) false, .sc (.int .i64 r.2.I), .sc (.int .i64 r.2.End), .sc (.int .i64 r.2.Deep), .sc (.int .i64 r.2.F.E), .sc (.int .i64 r.2.F.At)]]) (some ⟨[.code [1, 1, 1, 0, 0, 0], .loop [1, 1, 1, 0, 0], .blk 0, .code [1, 1, 1, 1]], [(0, .ptr 0 0 none), (2, .ptr 1 0 none), (3, .ptr 2 0 none)], [.box 44 [.sl 66 (List.map Token.av x_0) false, .sc (.int .i64 x_1), .sc (.int .i64 x_2), .sc (.int .i64 x_3), .sc (.int .i64 x_4_0), .sc (.int .i64 x_4_1)], .box 29 [.sc (.int .i64 0), .sc (.string ⟨#[]⟩), .sc (.int .i64 0), .sl 0 [] true, .sc (.int .i64 0)], .box 29 [.sc (.int .i64 7), .sc (.string ⟨#[]⟩), .sc (.int .i64 0), .own 3 1000000, .sc (.int .i64 v.1)], .row 29 (List.map Node.av o3) 1000000 true]⟩) := by
  intro m
  induction m with
  | zero => intro x_0 x_1 x_2 x_3 x_4_0 x_4_1 o3 H; cases H
  | succ m ih =>
    intro x_0 x_1 x_2 x_3 x_4_0 x_4_1 o3 H
    rw [podestaref15_Eye_block_l0] at H
    refine .sg 2 [0,2,3] (.rg (.sg 7 [0,2,3,15] (.sp 15 (x_4_0 == 0) H (fun hb H => ?_) (fun hb H => ?_))))
    ·
      refine .sg 1 [0,2,3,15,16] (bndO H fun v2 hv H => (.ch [0,2,3,15,17] [0] (podestaref15_Eye_See_walk ({ L := x_0, I := x_1, End := x_2, Deep := x_3, F := ({ E := x_4_0, At := x_4_1 } : Fault) } : Eye) v2 hv) (.sg 2 [0,2,3,19] (.dn (.cd (v2.1 != (ByteArray.mk #[125])) H (fun hb H => ?_) (fun hb H => ?_))))))
      ·
        exact .sg 2 [0,2,3] (bndO H fun v3 hv_v3 H => (fitH H fun hfit2 H => (.rp hc0 [0, 2, 3] [⟨3, [], [], .loud, [(22, .ptr 0 0 none)], [.box 44 [.sl 66 (List.map Token.av v2.2.L) false, .sc (.int .i64 v2.2.I), .sc (.int .i64 v2.2.End), .sc (.int .i64 v2.2.Deep), .sc (.int .i64 v2.2.F.E), .sc (.int .i64 v2.2.F.At)], .box 29 [.sc (.int .i64 0), .sc (.string ⟨#[]⟩), .sc (.int .i64 0), .sl 0 [] true, .sc (.int .i64 0)], .box 29 [.sc (.int .i64 7), .sc (.string ⟨#[]⟩), .sc (.int .i64 0), .own 3 1000000, .sc (.int .i64 v.1)], .row 29 (List.map Node.av o3) 1000000 true], Node.ag v3.1, [.box 44 [.sl 66 (List.map Token.av v3.2.L) false, .sc (.int .i64 v3.2.I), .sc (.int .i64 v3.2.End), .sc (.int .i64 v3.2.Deep), .sc (.int .i64 v3.2.F.E), .sc (.int .i64 v3.2.F.At)], .box 29 [.sc (.int .i64 0), .sc (.string ⟨#[]⟩), .sc (.int .i64 0), .sl 0 [] true, .sc (.int .i64 0)], .box 29 [.sc (.int .i64 7), .sc (.string ⟨#[]⟩), .sc (.int .i64 0), .own 3 1000000, .sc (.int .i64 v.1)], .row 29 (List.map Node.av o3) 1000000 true]⟩, ⟨4, [], [], .pure, [(23, Node.ag v3.1)], [.box 44 [.sl 66 (List.map Token.av v3.2.L) false, .sc (.int .i64 v3.2.I), .sc (.int .i64 v3.2.End), .sc (.int .i64 v3.2.Deep), .sc (.int .i64 v3.2.F.E), .sc (.int .i64 v3.2.F.At)], .box 29 [.sc (.int .i64 0), .sc (.string ⟨#[]⟩), .sc (.int .i64 0), .sl 0 [] true, .sc (.int .i64 0)], .box 29 [.sc (.int .i64 7), .sc (.string ⟨#[]⟩), .sc (.int .i64 0), .own 3 1000000, .sc (.int .i64 v.1)], .row 29 (List.map Node.av o3) 1000000 true], .sl 29 (List.map Node.av [v3.1]) true, [.box 44 [.sl 66 (List.map Token.av v3.2.L) false, .sc (.int .i64 v3.2.I), .sc (.int .i64 v3.2.End), .sc (.int .i64 v3.2.Deep), .sc (.int .i64 v3.2.F.E), .sc (.int .i64 v3.2.F.At)], .box 29 [.sc (.int .i64 0), .sc (.string ⟨#[]⟩), .sc (.int .i64 0), .sl 0 [] true, .sc (.int .i64 0)], .box 29 [.sc (.int .i64 7), .sc (.string ⟨#[]⟩), .sc (.int .i64 0), .own 3 1000000, .sc (.int .i64 v.1)], .row 29 (List.map Node.av o3) 1000000 true]⟩, ⟨5, [], [], .loud, [(21, .own 3 1000000), (24, .sl 29 (List.map Node.av [v3.1]) true)], [.box 44 [.sl 66 (List.map Token.av v3.2.L) false, .sc (.int .i64 v3.2.I), .sc (.int .i64 v3.2.End), .sc (.int .i64 v3.2.Deep), .sc (.int .i64 v3.2.F.E), .sc (.int .i64 v3.2.F.At)], .box 29 [.sc (.int .i64 0), .sc (.string ⟨#[]⟩), .sc (.int .i64 0), .sl 0 [] true, .sc (.int .i64 0)], .box 29 [.sc (.int .i64 7), .sc (.string ⟨#[]⟩), .sc (.int .i64 0), .own 3 1000000, .sc (.int .i64 v.1)], .row 29 (List.map Node.av o3) 1000000 true], .own 3 1000001, [.box 44 [.sl 66 (List.map Token.av v3.2.L) false, .sc (.int .i64 v3.2.I), .sc (.int .i64 v3.2.End), .sc (.int .i64 v3.2.Deep), .sc (.int .i64 v3.2.F.E), .sc (.int .i64 v3.2.F.At)], .box 29 [.sc (.int .i64 0), .sc (.string ⟨#[]⟩), .sc (.int .i64 0), .sl 0 [] true, .sc (.int .i64 0)], .box 29 [.sc (.int .i64 7), .sc (.string ⟨#[]⟩), .sc (.int .i64 0), .own 3 1000000, .sc (.int .i64 v.1)], .row 29 (List.map Node.av (o3 ++ [v3.1])) 1000001 true]⟩] [[0, 1, 2, 3], [0, 1, 2, 3]] (.cons (LQ.ch [0] (H_g_podestaref15_Eye_stmt v2.2 v3 hv_v3)) (.cons (LQ.bg Node.av Node.ag Node.av_eq ([v3.1] : List Node) 29 true) (.cons (LQ.ap Node.av hfit2) .nil))) (by kernel_rfl) (.sg 1 [0,2,3] (.kp [0,2,3] (.into (.to (ih v3.2.L v3.2.I v3.2.End v3.2.Deep v3.2.F.E v3.2.F.At (o3 ++ [v3.1]) H))))))))
      ·
        refine .sg 1 [0,2,3] (.kp [0,2,3] ?_)
        obtain rfl := Option.some.inj H
        exact .to J
    ·
      refine .sg 4 [0,2,3,19] (.dn (.sg 2 [0,2,3] (.kp [0,2,3] ?_)))
      obtain rfl := Option.some.inj H
      exact .to J
def podestaref15_Eye_block_raw (q0 : Nat) (g_podestaref15_Eye_one : Eye → Option (Node × Eye)) (g_podestaref15_Eye_part : Eye → Int → Bool → Option (Node × Eye)) (g_podestaref15_Eye_Expr : Eye → Bool → Option (Node × Eye)) (g_podestaref15_Eye_match : Eye → Option (Node × Eye)) (g_podestaref15_Eye_given : Eye → ByteArray → Int → Option (Node × Eye)) (g_podestaref15_Eye_acts : Eye → Option (Node × Eye)) (g_podestaref15_Eye_rest : Eye → Node → Bool → Option (Eye × Node)) (g_podestaref15_Eye_stmt : Eye → Option (Node × Eye)) (g_podestaref15_Eye_block : Eye → Option (Node × Eye)) (x : Eye) : Option (Node × Eye) :=
  (podestaref15_Eye_At_raw x).bind fun v =>
  (podestaref15_Eye_Must_raw v.2 (ByteArray.mk #[123])).bind fun v1 =>
  (podestaref15_Eye_block_l0 g_podestaref15_Eye_stmt q0 v1.L v1.I v1.End v1.Deep v1.F.E v1.F.At ([] : List Node)).bind fun v2 =>
  (podestaref15_Eye_Must_raw ({ L := v2.1, I := v2.2.1, End := v2.2.2.1, Deep := v2.2.2.2.1, F := ({ E := v2.2.2.2.2.1, At := v2.2.2.2.2.2.1 } : Fault) } : Eye) (ByteArray.mk #[125])).bind fun v3 =>
  some (({ Kind := 7, Text := ⟨#[]⟩, Num := 0, Kids := v2.2.2.2.2.2.2, At := v.1 } : Node), v3)
theorem podestaref15_Eye_block_walk (q0 : Nat) (g_podestaref15_Eye_one : Eye → Option (Node × Eye)) (H_g_podestaref15_Eye_one : ∀ (x : Eye) (r : Node × Eye) (H : g_podestaref15_Eye_one x = some r), ACalls Try.prog tab.S 58 [.ptr 0 0 none] [.box 44 [.sl 66 (List.map Token.av x.L) false, .sc (.int .i64 x.I), .sc (.int .i64 x.End), .sc (.int .i64 x.Deep), .sc (.int .i64 x.F.E), .sc (.int .i64 x.F.At)]] (Node.ag r.1) [.box 44 [.sl 66 (List.map Token.av r.2.L) false, .sc (.int .i64 r.2.I), .sc (.int .i64 r.2.End), .sc (.int .i64 r.2.Deep), .sc (.int .i64 r.2.F.E), .sc (.int .i64 r.2.F.At)]]) (g_podestaref15_Eye_part : Eye → Int → Bool → Option (Node × Eye)) (H_g_podestaref15_Eye_part : ∀ (x : Eye) (k1 : Int) (stroke : Bool) (r : Node × Eye) (H : g_podestaref15_Eye_part x k1 stroke = some r), ACalls Try.prog tab.S 53 [.ptr 0 0 none, .sc (.int .i64 k1), .sc (.bool stroke)] [.box 44 [.sl 66 (List.map Token.av x.L) false, .sc (.int .i64 x.I), .sc (.int .i64 x.End), .sc (.int .i64 x.Deep), .sc (.int .i64 x.F.E), .sc (.int .i64 x.F.At)]] (Node.ag r.1) [.box 44 [.sl 66 (List.map Token.av r.2.L) false, .sc (.int .i64 r.2.I), .sc (.int .i64 r.2.End), .sc (.int .i64 r.2.Deep), .sc (.int .i64 r.2.F.E), .sc (.int .i64 r.2.F.At)]]) (g_podestaref15_Eye_Expr : Eye → Bool → Option (Node × Eye)) (H_g_podestaref15_Eye_Expr : ∀ (x : Eye) (stroke : Bool) (r : Node × Eye) (H : g_podestaref15_Eye_Expr x stroke = some r), ACalls Try.prog tab.S 43 [.ptr 0 0 none, .sc (.bool stroke)] [.box 44 [.sl 66 (List.map Token.av x.L) false, .sc (.int .i64 x.I), .sc (.int .i64 x.End), .sc (.int .i64 x.Deep), .sc (.int .i64 x.F.E), .sc (.int .i64 x.F.At)]] (Node.ag r.1) [.box 44 [.sl 66 (List.map Token.av r.2.L) false, .sc (.int .i64 r.2.I), .sc (.int .i64 r.2.End), .sc (.int .i64 r.2.Deep), .sc (.int .i64 r.2.F.E), .sc (.int .i64 r.2.F.At)]]) (g_podestaref15_Eye_match : Eye → Option (Node × Eye)) (H_g_podestaref15_Eye_match : ∀ (x : Eye) (r : Node × Eye) (H : g_podestaref15_Eye_match x = some r), ACalls Try.prog tab.S 44 [.ptr 0 0 none] [.box 44 [.sl 66 (List.map Token.av x.L) false, .sc (.int .i64 x.I), .sc (.int .i64 x.End), .sc (.int .i64 x.Deep), .sc (.int .i64 x.F.E), .sc (.int .i64 x.F.At)]] (Node.ag r.1) [.box 44 [.sl 66 (List.map Token.av r.2.L) false, .sc (.int .i64 r.2.I), .sc (.int .i64 r.2.End), .sc (.int .i64 r.2.Deep), .sc (.int .i64 r.2.F.E), .sc (.int .i64 r.2.F.At)]]) (g_podestaref15_Eye_given : Eye → ByteArray → Int → Option (Node × Eye)) (H_g_podestaref15_Eye_given : ∀ (x : Eye) (s : ByteArray) (at_ : Int) (r : Node × Eye) (H : g_podestaref15_Eye_given x s at_ = some r), ACalls Try.prog tab.S 45 [.ptr 0 0 none, .sc (.string s), .sc (.int .i64 at_)] [.box 44 [.sl 66 (List.map Token.av x.L) false, .sc (.int .i64 x.I), .sc (.int .i64 x.End), .sc (.int .i64 x.Deep), .sc (.int .i64 x.F.E), .sc (.int .i64 x.F.At)]] (Node.ag r.1) [.box 44 [.sl 66 (List.map Token.av r.2.L) false, .sc (.int .i64 r.2.I), .sc (.int .i64 r.2.End), .sc (.int .i64 r.2.Deep), .sc (.int .i64 r.2.F.E), .sc (.int .i64 r.2.F.At)]]) (g_podestaref15_Eye_acts : Eye → Option (Node × Eye)) (H_g_podestaref15_Eye_acts : ∀ (x : Eye) (r : Node × Eye) (H : g_podestaref15_Eye_acts x = some r), ACalls Try.prog tab.S 46 [.ptr 0 0 none] [.box 44 [.sl 66 (List.map Token.av x.L) false, .sc (.int .i64 x.I), .sc (.int .i64 x.End), .sc (.int .i64 x.Deep), .sc (.int .i64 x.F.E), .sc (.int .i64 x.F.At)]] (Node.ag r.1) [.box 44 [.sl 66 (List.map Token.av r.2.L) false, .sc (.int .i64 r.2.I), .sc (.int .i64 r.2.End), .sc (.int .i64 r.2.Deep), .sc (.int .i64 r.2.F.E), .sc (.int .i64 r.2.F.At)]]) (g_podestaref15_Eye_rest : Eye → Node → Bool → Option (Eye × Node)) (H_g_podestaref15_Eye_rest : ∀ (x : Eye) (n : Node) (acts : Bool) (r : Eye × Node) (H : g_podestaref15_Eye_rest x n acts = some r), ACalls Try.prog tab.S 47 [.ptr 0 0 none, .ptr 1 0 none, .sc (.bool acts)] [.box 44 [.sl 66 (List.map Token.av x.L) false, .sc (.int .i64 x.I), .sc (.int .i64 x.End), .sc (.int .i64 x.Deep), .sc (.int .i64 x.F.E), .sc (.int .i64 x.F.At)], .box 29 [.sc (.int .i64 n.Kind), .sc (.string n.Text), .sc (.int .i64 n.Num), .own 2 1000000, .sc (.int .i64 n.At)], .row 29 (List.map Node.av n.Kids) 1000000 true] (.tup []) [.box 44 [.sl 66 (List.map Token.av r.1.L) false, .sc (.int .i64 r.1.I), .sc (.int .i64 r.1.End), .sc (.int .i64 r.1.Deep), .sc (.int .i64 r.1.F.E), .sc (.int .i64 r.1.F.At)], .box 29 [.sc (.int .i64 r.2.Kind), .sc (.string r.2.Text), .sc (.int .i64 r.2.Num), .own 2 1000000, .sc (.int .i64 r.2.At)], .row 29 (List.map Node.av r.2.Kids) 1000000 true]) (g_podestaref15_Eye_stmt : Eye → Option (Node × Eye)) (H_g_podestaref15_Eye_stmt : ∀ (x : Eye) (r : Node × Eye) (H : g_podestaref15_Eye_stmt x = some r), ACalls Try.prog tab.S 36 [.ptr 0 0 none] [.box 44 [.sl 66 (List.map Token.av x.L) false, .sc (.int .i64 x.I), .sc (.int .i64 x.End), .sc (.int .i64 x.Deep), .sc (.int .i64 x.F.E), .sc (.int .i64 x.F.At)]] (Node.ag r.1) [.box 44 [.sl 66 (List.map Token.av r.2.L) false, .sc (.int .i64 r.2.I), .sc (.int .i64 r.2.End), .sc (.int .i64 r.2.Deep), .sc (.int .i64 r.2.F.E), .sc (.int .i64 r.2.F.At)]]) (g_podestaref15_Eye_block : Eye → Option (Node × Eye)) (H_g_podestaref15_Eye_block : ∀ (x : Eye) (r : Node × Eye) (H : g_podestaref15_Eye_block x = some r), ACalls Try.prog tab.S 20 [.ptr 0 0 none] [.box 44 [.sl 66 (List.map Token.av x.L) false, .sc (.int .i64 x.I), .sc (.int .i64 x.End), .sc (.int .i64 x.Deep), .sc (.int .i64 x.F.E), .sc (.int .i64 x.F.At)]] (Node.ag r.1) [.box 44 [.sl 66 (List.map Token.av r.2.L) false, .sc (.int .i64 r.2.I), .sc (.int .i64 r.2.End), .sc (.int .i64 r.2.Deep), .sc (.int .i64 r.2.F.E), .sc (.int .i64 r.2.F.At)]]) (x : Eye) (r : Node × Eye) (H : podestaref15_Eye_block_raw q0 g_podestaref15_Eye_one g_podestaref15_Eye_part g_podestaref15_Eye_Expr g_podestaref15_Eye_match g_podestaref15_Eye_given g_podestaref15_Eye_acts g_podestaref15_Eye_rest g_podestaref15_Eye_stmt g_podestaref15_Eye_block x = some r) : ACalls Try.prog tab.S 20 [.ptr 0 0 none] [.box 44 [.sl 66 (List.map Token.av x.L) false, .sc (.int .i64 x.I), .sc (.int .i64 x.End), .sc (.int .i64 x.Deep), .sc (.int .i64 x.F.E), .sc (.int .i64 x.F.At)]] (Node.ag r.1) [.box 44 [.sl 66 (List.map Token.av r.2.L) false, .sc (.int .i64 r.2.I), .sc (.int .i64 r.2.End), .sc (.int .i64 r.2.Deep), .sc (.int .i64 r.2.F.E), .sc (.int .i64 r.2.F.At)]] := by
  refine .of_AX podestaref15_Eye_block_F Try.func20 fun c0 hc0 => ?_
  rw [podestaref15_Eye_block_raw] at H
  refine .sg 3 [0,2] (.rg (.sg 1 [0,2,4] (bndO H fun v hv H => (.ch [0,2,5] [0] (podestaref15_Eye_At_walk x v hv) (.sg 3 [0,2,3] (.dn (.sg 1 [0,2,3] (.adb 2 3 29 (.rg (.sg 1 [0,2,3,7] (bndO H fun v1 hv H => (.ch [0,2,3] [0] (podestaref15_Eye_Must_walk v.2 (ByteArray.mk #[123]) v1 hv) (.dn (.sg 2 [0,2,3] ?_))))))))))))))
  refine bndO H fun v2 hv H => (.into (.to (podestaref15_Eye_block_l0_walk q0 g_podestaref15_Eye_one H_g_podestaref15_Eye_one g_podestaref15_Eye_part H_g_podestaref15_Eye_part g_podestaref15_Eye_Expr H_g_podestaref15_Eye_Expr g_podestaref15_Eye_match H_g_podestaref15_Eye_match g_podestaref15_Eye_given H_g_podestaref15_Eye_given g_podestaref15_Eye_acts H_g_podestaref15_Eye_acts g_podestaref15_Eye_rest H_g_podestaref15_Eye_rest g_podestaref15_Eye_stmt H_g_podestaref15_Eye_stmt g_podestaref15_Eye_block H_g_podestaref15_Eye_block x v v1 r c0 hc0 v2 ?_ q0 v1.L v1.I v1.End v1.Deep v1.F.E v1.F.At ([] : List Node) hv)))
  refine .sg 1 [0,2,3] (.rg (.sg 1 [2,3,27] (bndO H fun v3 hv H => (.ch [2,3] [0] (podestaref15_Eye_Must_walk ({ L := v2.1, I := v2.2.1, End := v2.2.2.1, Deep := v2.2.2.2.1, F := ({ E := v2.2.2.2.2.1, At := v2.2.2.2.2.2.1 } : Fault) } : Eye) (ByteArray.mk #[125]) v3 hv) (.dn (.sg 2 [2] ?_))))))
  obtain rfl := Option.some.inj H
  exact .ret Try.func20 hc0 [0]

end Go.Proofs.Ytinmkhkehfjcaaa

set_option linter.unusedVariables false
set_option linter.unusedSimpArgs false
set_option maxRecDepth 100000
set_option maxHeartbeats 4000000
namespace Go.Proofs.Ytinmkhkehfjcaaa
open Go.Sh
def eyeG : Nat → (Eye → Option (Node × Eye)) × (Eye → Int → Bool → Option (Node × Eye)) × (Eye → Bool → Option (Node × Eye)) × (Eye → Option (Node × Eye)) × (Eye → ByteArray → Int → Option (Node × Eye)) × (Eye → Option (Node × Eye)) × (Eye → Node → Bool → Option (Eye × Node)) × (Eye → Option (Node × Eye)) × (Eye → Option (Node × Eye))
  | 0 => (fun _ => none, fun _ _ _ => none, fun _ _ => none, fun _ => none, fun _ _ _ => none, fun _ => none, fun _ _ _ => none, fun _ => none, fun _ => none)
  | q + 1 => (podestaref15_Eye_one_raw (eyeG q).1 (eyeG q).2.1 (eyeG q).2.2.1 (eyeG q).2.2.2.1 (eyeG q).2.2.2.2.1 (eyeG q).2.2.2.2.2.1 (eyeG q).2.2.2.2.2.2.1 (eyeG q).2.2.2.2.2.2.2.1 (eyeG q).2.2.2.2.2.2.2.2, podestaref15_Eye_part_raw 1000 (eyeG q).1 (eyeG q).2.1 (eyeG q).2.2.1 (eyeG q).2.2.2.1 (eyeG q).2.2.2.2.1 (eyeG q).2.2.2.2.2.1 (eyeG q).2.2.2.2.2.2.1 (eyeG q).2.2.2.2.2.2.2.1 (eyeG q).2.2.2.2.2.2.2.2, podestaref15_Eye_Expr_raw (eyeG q).1 (eyeG q).2.1 (eyeG q).2.2.1 (eyeG q).2.2.2.1 (eyeG q).2.2.2.2.1 (eyeG q).2.2.2.2.2.1 (eyeG q).2.2.2.2.2.2.1 (eyeG q).2.2.2.2.2.2.2.1 (eyeG q).2.2.2.2.2.2.2.2, podestaref15_Eye_match_raw 1000 (eyeG q).1 (eyeG q).2.1 (eyeG q).2.2.1 (eyeG q).2.2.2.1 (eyeG q).2.2.2.2.1 (eyeG q).2.2.2.2.2.1 (eyeG q).2.2.2.2.2.2.1 (eyeG q).2.2.2.2.2.2.2.1 (eyeG q).2.2.2.2.2.2.2.2, podestaref15_Eye_given_raw (eyeG q).1 (eyeG q).2.1 (eyeG q).2.2.1 (eyeG q).2.2.2.1 (eyeG q).2.2.2.2.1 (eyeG q).2.2.2.2.2.1 (eyeG q).2.2.2.2.2.2.1 (eyeG q).2.2.2.2.2.2.2.1 (eyeG q).2.2.2.2.2.2.2.2, podestaref15_Eye_acts_raw 1000 (eyeG q).1 (eyeG q).2.1 (eyeG q).2.2.1 (eyeG q).2.2.2.1 (eyeG q).2.2.2.2.1 (eyeG q).2.2.2.2.2.1 (eyeG q).2.2.2.2.2.2.1 (eyeG q).2.2.2.2.2.2.2.1 (eyeG q).2.2.2.2.2.2.2.2, podestaref15_Eye_rest_raw (eyeG q).1 (eyeG q).2.1 (eyeG q).2.2.1 (eyeG q).2.2.2.1 (eyeG q).2.2.2.2.1 (eyeG q).2.2.2.2.2.1 (eyeG q).2.2.2.2.2.2.1 (eyeG q).2.2.2.2.2.2.2.1 (eyeG q).2.2.2.2.2.2.2.2, podestaref15_Eye_stmt_raw (eyeG q).1 (eyeG q).2.1 (eyeG q).2.2.1 (eyeG q).2.2.2.1 (eyeG q).2.2.2.2.1 (eyeG q).2.2.2.2.2.1 (eyeG q).2.2.2.2.2.2.1 (eyeG q).2.2.2.2.2.2.2.1 (eyeG q).2.2.2.2.2.2.2.2, podestaref15_Eye_block_raw 1000 (eyeG q).1 (eyeG q).2.1 (eyeG q).2.2.1 (eyeG q).2.2.2.1 (eyeG q).2.2.2.2.1 (eyeG q).2.2.2.2.2.1 (eyeG q).2.2.2.2.2.2.1 (eyeG q).2.2.2.2.2.2.2.1 (eyeG q).2.2.2.2.2.2.2.2)
theorem eyeG_walk : ∀ q : Nat, (∀ (x : Eye) (r : Node × Eye) (H : (eyeG q).1 x = some r), ACalls Try.prog tab.S 58 [.ptr 0 0 none] [.box 44 [.sl 66 (List.map Token.av x.L) false, .sc (.int .i64 x.I), .sc (.int .i64 x.End), .sc (.int .i64 x.Deep), .sc (.int .i64 x.F.E), .sc (.int .i64 x.F.At)]] (Node.ag r.1) [.box 44 [.sl 66 (List.map Token.av r.2.L) false, .sc (.int .i64 r.2.I), .sc (.int .i64 r.2.End), .sc (.int .i64 r.2.Deep), .sc (.int .i64 r.2.F.E), .sc (.int .i64 r.2.F.At)]]) ∧ (∀ (x : Eye) (k1 : Int) (stroke : Bool) (r : Node × Eye) (H : (eyeG q).2.1 x k1 stroke = some r), ACalls Try.prog tab.S 53 [.ptr 0 0 none, .sc (.int .i64 k1), .sc (.bool stroke)] [.box 44 [.sl 66 (List.map Token.av x.L) false, .sc (.int .i64 x.I), .sc (.int .i64 x.End), .sc (.int .i64 x.Deep), .sc (.int .i64 x.F.E), .sc (.int .i64 x.F.At)]] (Node.ag r.1) [.box 44 [.sl 66 (List.map Token.av r.2.L) false, .sc (.int .i64 r.2.I), .sc (.int .i64 r.2.End), .sc (.int .i64 r.2.Deep), .sc (.int .i64 r.2.F.E), .sc (.int .i64 r.2.F.At)]]) ∧ (∀ (x : Eye) (stroke : Bool) (r : Node × Eye) (H : (eyeG q).2.2.1 x stroke = some r), ACalls Try.prog tab.S 43 [.ptr 0 0 none, .sc (.bool stroke)] [.box 44 [.sl 66 (List.map Token.av x.L) false, .sc (.int .i64 x.I), .sc (.int .i64 x.End), .sc (.int .i64 x.Deep), .sc (.int .i64 x.F.E), .sc (.int .i64 x.F.At)]] (Node.ag r.1) [.box 44 [.sl 66 (List.map Token.av r.2.L) false, .sc (.int .i64 r.2.I), .sc (.int .i64 r.2.End), .sc (.int .i64 r.2.Deep), .sc (.int .i64 r.2.F.E), .sc (.int .i64 r.2.F.At)]]) ∧ (∀ (x : Eye) (r : Node × Eye) (H : (eyeG q).2.2.2.1 x = some r), ACalls Try.prog tab.S 44 [.ptr 0 0 none] [.box 44 [.sl 66 (List.map Token.av x.L) false, .sc (.int .i64 x.I), .sc (.int .i64 x.End), .sc (.int .i64 x.Deep), .sc (.int .i64 x.F.E), .sc (.int .i64 x.F.At)]] (Node.ag r.1) [.box 44 [.sl 66 (List.map Token.av r.2.L) false, .sc (.int .i64 r.2.I), .sc (.int .i64 r.2.End), .sc (.int .i64 r.2.Deep), .sc (.int .i64 r.2.F.E), .sc (.int .i64 r.2.F.At)]]) ∧ (∀ (x : Eye) (s : ByteArray) (at_ : Int) (r : Node × Eye) (H : (eyeG q).2.2.2.2.1 x s at_ = some r), ACalls Try.prog tab.S 45 [.ptr 0 0 none, .sc (.string s), .sc (.int .i64 at_)] [.box 44 [.sl 66 (List.map Token.av x.L) false, .sc (.int .i64 x.I), .sc (.int .i64 x.End), .sc (.int .i64 x.Deep), .sc (.int .i64 x.F.E), .sc (.int .i64 x.F.At)]] (Node.ag r.1) [.box 44 [.sl 66 (List.map Token.av r.2.L) false, .sc (.int .i64 r.2.I), .sc (.int .i64 r.2.End), .sc (.int .i64 r.2.Deep), .sc (.int .i64 r.2.F.E), .sc (.int .i64 r.2.F.At)]]) ∧ (∀ (x : Eye) (r : Node × Eye) (H : (eyeG q).2.2.2.2.2.1 x = some r), ACalls Try.prog tab.S 46 [.ptr 0 0 none] [.box 44 [.sl 66 (List.map Token.av x.L) false, .sc (.int .i64 x.I), .sc (.int .i64 x.End), .sc (.int .i64 x.Deep), .sc (.int .i64 x.F.E), .sc (.int .i64 x.F.At)]] (Node.ag r.1) [.box 44 [.sl 66 (List.map Token.av r.2.L) false, .sc (.int .i64 r.2.I), .sc (.int .i64 r.2.End), .sc (.int .i64 r.2.Deep), .sc (.int .i64 r.2.F.E), .sc (.int .i64 r.2.F.At)]]) ∧ (∀ (x : Eye) (n : Node) (acts : Bool) (r : Eye × Node) (H : (eyeG q).2.2.2.2.2.2.1 x n acts = some r), ACalls Try.prog tab.S 47 [.ptr 0 0 none, .ptr 1 0 none, .sc (.bool acts)] [.box 44 [.sl 66 (List.map Token.av x.L) false, .sc (.int .i64 x.I), .sc (.int .i64 x.End), .sc (.int .i64 x.Deep), .sc (.int .i64 x.F.E), .sc (.int .i64 x.F.At)], .box 29 [.sc (.int .i64 n.Kind), .sc (.string n.Text), .sc (.int .i64 n.Num), .own 2 1000000, .sc (.int .i64 n.At)], .row 29 (List.map Node.av n.Kids) 1000000 true] (.tup []) [.box 44 [.sl 66 (List.map Token.av r.1.L) false, .sc (.int .i64 r.1.I), .sc (.int .i64 r.1.End), .sc (.int .i64 r.1.Deep), .sc (.int .i64 r.1.F.E), .sc (.int .i64 r.1.F.At)], .box 29 [.sc (.int .i64 r.2.Kind), .sc (.string r.2.Text), .sc (.int .i64 r.2.Num), .own 2 1000000, .sc (.int .i64 r.2.At)], .row 29 (List.map Node.av r.2.Kids) 1000000 true]) ∧ (∀ (x : Eye) (r : Node × Eye) (H : (eyeG q).2.2.2.2.2.2.2.1 x = some r), ACalls Try.prog tab.S 36 [.ptr 0 0 none] [.box 44 [.sl 66 (List.map Token.av x.L) false, .sc (.int .i64 x.I), .sc (.int .i64 x.End), .sc (.int .i64 x.Deep), .sc (.int .i64 x.F.E), .sc (.int .i64 x.F.At)]] (Node.ag r.1) [.box 44 [.sl 66 (List.map Token.av r.2.L) false, .sc (.int .i64 r.2.I), .sc (.int .i64 r.2.End), .sc (.int .i64 r.2.Deep), .sc (.int .i64 r.2.F.E), .sc (.int .i64 r.2.F.At)]]) ∧ (∀ (x : Eye) (r : Node × Eye) (H : (eyeG q).2.2.2.2.2.2.2.2 x = some r), ACalls Try.prog tab.S 20 [.ptr 0 0 none] [.box 44 [.sl 66 (List.map Token.av x.L) false, .sc (.int .i64 x.I), .sc (.int .i64 x.End), .sc (.int .i64 x.Deep), .sc (.int .i64 x.F.E), .sc (.int .i64 x.F.At)]] (Node.ag r.1) [.box 44 [.sl 66 (List.map Token.av r.2.L) false, .sc (.int .i64 r.2.I), .sc (.int .i64 r.2.End), .sc (.int .i64 r.2.Deep), .sc (.int .i64 r.2.F.E), .sc (.int .i64 r.2.F.At)]])
  | 0 => ⟨(fun _ _ H => nomatch H), (fun _ _ _ _ H => nomatch H), (fun _ _ _ H => nomatch H), (fun _ _ H => nomatch H), (fun _ _ _ _ H => nomatch H), (fun _ _ H => nomatch H), (fun _ _ _ _ H => nomatch H), (fun _ _ H => nomatch H), (fun _ _ H => nomatch H)⟩
  | q + 1 => ⟨podestaref15_Eye_one_walk (eyeG q).1 (eyeG_walk q).1 (eyeG q).2.1 (eyeG_walk q).2.1 (eyeG q).2.2.1 (eyeG_walk q).2.2.1 (eyeG q).2.2.2.1 (eyeG_walk q).2.2.2.1 (eyeG q).2.2.2.2.1 (eyeG_walk q).2.2.2.2.1 (eyeG q).2.2.2.2.2.1 (eyeG_walk q).2.2.2.2.2.1 (eyeG q).2.2.2.2.2.2.1 (eyeG_walk q).2.2.2.2.2.2.1 (eyeG q).2.2.2.2.2.2.2.1 (eyeG_walk q).2.2.2.2.2.2.2.1 (eyeG q).2.2.2.2.2.2.2.2 (eyeG_walk q).2.2.2.2.2.2.2.2, podestaref15_Eye_part_walk 1000 (eyeG q).1 (eyeG_walk q).1 (eyeG q).2.1 (eyeG_walk q).2.1 (eyeG q).2.2.1 (eyeG_walk q).2.2.1 (eyeG q).2.2.2.1 (eyeG_walk q).2.2.2.1 (eyeG q).2.2.2.2.1 (eyeG_walk q).2.2.2.2.1 (eyeG q).2.2.2.2.2.1 (eyeG_walk q).2.2.2.2.2.1 (eyeG q).2.2.2.2.2.2.1 (eyeG_walk q).2.2.2.2.2.2.1 (eyeG q).2.2.2.2.2.2.2.1 (eyeG_walk q).2.2.2.2.2.2.2.1 (eyeG q).2.2.2.2.2.2.2.2 (eyeG_walk q).2.2.2.2.2.2.2.2, podestaref15_Eye_Expr_walk (eyeG q).1 (eyeG_walk q).1 (eyeG q).2.1 (eyeG_walk q).2.1 (eyeG q).2.2.1 (eyeG_walk q).2.2.1 (eyeG q).2.2.2.1 (eyeG_walk q).2.2.2.1 (eyeG q).2.2.2.2.1 (eyeG_walk q).2.2.2.2.1 (eyeG q).2.2.2.2.2.1 (eyeG_walk q).2.2.2.2.2.1 (eyeG q).2.2.2.2.2.2.1 (eyeG_walk q).2.2.2.2.2.2.1 (eyeG q).2.2.2.2.2.2.2.1 (eyeG_walk q).2.2.2.2.2.2.2.1 (eyeG q).2.2.2.2.2.2.2.2 (eyeG_walk q).2.2.2.2.2.2.2.2, podestaref15_Eye_match_walk 1000 (eyeG q).1 (eyeG_walk q).1 (eyeG q).2.1 (eyeG_walk q).2.1 (eyeG q).2.2.1 (eyeG_walk q).2.2.1 (eyeG q).2.2.2.1 (eyeG_walk q).2.2.2.1 (eyeG q).2.2.2.2.1 (eyeG_walk q).2.2.2.2.1 (eyeG q).2.2.2.2.2.1 (eyeG_walk q).2.2.2.2.2.1 (eyeG q).2.2.2.2.2.2.1 (eyeG_walk q).2.2.2.2.2.2.1 (eyeG q).2.2.2.2.2.2.2.1 (eyeG_walk q).2.2.2.2.2.2.2.1 (eyeG q).2.2.2.2.2.2.2.2 (eyeG_walk q).2.2.2.2.2.2.2.2, podestaref15_Eye_given_walk (eyeG q).1 (eyeG_walk q).1 (eyeG q).2.1 (eyeG_walk q).2.1 (eyeG q).2.2.1 (eyeG_walk q).2.2.1 (eyeG q).2.2.2.1 (eyeG_walk q).2.2.2.1 (eyeG q).2.2.2.2.1 (eyeG_walk q).2.2.2.2.1 (eyeG q).2.2.2.2.2.1 (eyeG_walk q).2.2.2.2.2.1 (eyeG q).2.2.2.2.2.2.1 (eyeG_walk q).2.2.2.2.2.2.1 (eyeG q).2.2.2.2.2.2.2.1 (eyeG_walk q).2.2.2.2.2.2.2.1 (eyeG q).2.2.2.2.2.2.2.2 (eyeG_walk q).2.2.2.2.2.2.2.2, podestaref15_Eye_acts_walk 1000 (eyeG q).1 (eyeG_walk q).1 (eyeG q).2.1 (eyeG_walk q).2.1 (eyeG q).2.2.1 (eyeG_walk q).2.2.1 (eyeG q).2.2.2.1 (eyeG_walk q).2.2.2.1 (eyeG q).2.2.2.2.1 (eyeG_walk q).2.2.2.2.1 (eyeG q).2.2.2.2.2.1 (eyeG_walk q).2.2.2.2.2.1 (eyeG q).2.2.2.2.2.2.1 (eyeG_walk q).2.2.2.2.2.2.1 (eyeG q).2.2.2.2.2.2.2.1 (eyeG_walk q).2.2.2.2.2.2.2.1 (eyeG q).2.2.2.2.2.2.2.2 (eyeG_walk q).2.2.2.2.2.2.2.2, podestaref15_Eye_rest_walk (eyeG q).1 (eyeG_walk q).1 (eyeG q).2.1 (eyeG_walk q).2.1 (eyeG q).2.2.1 (eyeG_walk q).2.2.1 (eyeG q).2.2.2.1 (eyeG_walk q).2.2.2.1 (eyeG q).2.2.2.2.1 (eyeG_walk q).2.2.2.2.1 (eyeG q).2.2.2.2.2.1 (eyeG_walk q).2.2.2.2.2.1 (eyeG q).2.2.2.2.2.2.1 (eyeG_walk q).2.2.2.2.2.2.1 (eyeG q).2.2.2.2.2.2.2.1 (eyeG_walk q).2.2.2.2.2.2.2.1 (eyeG q).2.2.2.2.2.2.2.2 (eyeG_walk q).2.2.2.2.2.2.2.2, podestaref15_Eye_stmt_walk (eyeG q).1 (eyeG_walk q).1 (eyeG q).2.1 (eyeG_walk q).2.1 (eyeG q).2.2.1 (eyeG_walk q).2.2.1 (eyeG q).2.2.2.1 (eyeG_walk q).2.2.2.1 (eyeG q).2.2.2.2.1 (eyeG_walk q).2.2.2.2.1 (eyeG q).2.2.2.2.2.1 (eyeG_walk q).2.2.2.2.2.1 (eyeG q).2.2.2.2.2.2.1 (eyeG_walk q).2.2.2.2.2.2.1 (eyeG q).2.2.2.2.2.2.2.1 (eyeG_walk q).2.2.2.2.2.2.2.1 (eyeG q).2.2.2.2.2.2.2.2 (eyeG_walk q).2.2.2.2.2.2.2.2, podestaref15_Eye_block_walk 1000 (eyeG q).1 (eyeG_walk q).1 (eyeG q).2.1 (eyeG_walk q).2.1 (eyeG q).2.2.1 (eyeG_walk q).2.2.1 (eyeG q).2.2.2.1 (eyeG_walk q).2.2.2.1 (eyeG q).2.2.2.2.1 (eyeG_walk q).2.2.2.2.1 (eyeG q).2.2.2.2.2.1 (eyeG_walk q).2.2.2.2.2.1 (eyeG q).2.2.2.2.2.2.1 (eyeG_walk q).2.2.2.2.2.2.1 (eyeG q).2.2.2.2.2.2.2.1 (eyeG_walk q).2.2.2.2.2.2.2.1 (eyeG q).2.2.2.2.2.2.2.2 (eyeG_walk q).2.2.2.2.2.2.2.2⟩
end Go.Proofs.Ytinmkhkehfjcaaa

set_option linter.unusedVariables false
set_option linter.unusedSimpArgs false
set_option maxRecDepth 100000
set_option maxHeartbeats 4000000
namespace Go.Proofs.Ytinmkhkehfjcaaa
open Go.Sh
/-! ### podestaref15.Parse: function 10 -/
noncomputable def podestaref15_Parse_F : Go.Sh.Fn := ⟨10, bodyOf Try.f10, 93⟩
def podestaref15_Parse_l0 (x : (List Token) × Fault) : Nat → List Token → Int → Int → Int → Int → Int → List Node → Option ((List Token) × Int × Int × Int × Int × Int × (List Node))
  | 0, _, _, _, _, _, _, _ => none
  | m + 1, x_0, x_1, x_2, x_3, x_4_0, x_4_1, o5 =>
    (bif ((x_4_0 == 0) && (decide (x_1 < (((List.map Token.av x.1).length : Nat) : Int)))) then
    (podestaref15_Eye_At_raw ({ L := x_0, I := x_1, End := x_2, Deep := x_3, F := ({ E := x_4_0, At := x_4_1 } : Fault) } : Eye)).bind fun v =>
    (podestaref15_Eye_Eat_raw v.2 (ByteArray.mk #[118, 97, 114])).bind fun v1 =>
    (bif v1.1 then
      (podestaref15_Eye_Name_raw v1.2).bind fun v2 =>
      (podestaref15_Eye_Must_raw v2.2 (ByteArray.mk #[61])).bind fun v3 =>
      (podestaref15_Eye_Eat_raw v3 (ByteArray.mk #[45])).bind fun v4 =>
      (podestaref15_Eye_Int_raw v4.2).bind fun v5 =>
      (bif v4.1 then
        (podestaref15_Eye_Must_raw v5.2 (ByteArray.mk #[59])).bind fun v6 =>
        fitO (o5.length + [({ Kind := 2, Text := v2.1, Num := (IntKind.i64.wrap (0 - v5.1)), Kids := [], At := v.1 } : Node)].length) 64 (
        podestaref15_Parse_l0 x m v6.L v6.I v6.End v6.Deep v6.F.E v6.F.At (o5 ++ [({ Kind := 2, Text := v2.1, Num := (IntKind.i64.wrap (0 - v5.1)), Kids := [], At := v.1 } : Node)]))
      else
        (podestaref15_Eye_Must_raw v5.2 (ByteArray.mk #[59])).bind fun v7 =>
        fitO (o5.length + [({ Kind := 2, Text := v2.1, Num := v5.1, Kids := [], At := v.1 } : Node)].length) 64 (
        podestaref15_Parse_l0 x m v7.L v7.I v7.End v7.Deep v7.F.E v7.F.At (o5 ++ [({ Kind := 2, Text := v2.1, Num := v5.1, Kids := [], At := v.1 } : Node)])))
    else
      (podestaref15_Eye_Must_raw v1.2 (ByteArray.mk #[111, 110])).bind fun v8 =>
      (podestaref15_Eye_Name_raw v8).bind fun v9 =>
      ((eyeG 400).2.2.2.2.2.2.2.2 v9.2).bind fun v10 =>
      fitO (o5.length + [({ Kind := 3, Text := v9.1, Num := 0, Kids := v10.1.Kids, At := v.1 } : Node)].length) 64 (
      podestaref15_Parse_l0 x m v10.2.L v10.2.I v10.2.End v10.2.Deep v10.2.F.E v10.2.F.At (o5 ++ [({ Kind := 3, Text := v9.1, Num := 0, Kids := v10.1.Kids, At := v.1 } : Node)])))
  else
    some (x_0, x_1, x_2, x_3, x_4_0, x_4_1, o5))
theorem podestaref15_Parse_l0_walk (q0 : Nat) (s : ByteArray) (x : (List Token) × Fault)  (r : Node × Fault) (c0 : Ctx) (hc0 : c0.m.length = 0) (res : (List Token) × Int × Int × Int × Int × Int × (List Node)) (J : AX Try.prog tab podestaref15_Parse_F c0 (Rp tab.S c0 (.tup [Node.ag r.1, Fault.av r.2]) []) (some ⟨[.code [1, 1, 1, 1, 1, 1]], [(2, .ptr 0 0 none), (3, .ptr 1 0 none), (6, .ptr 3 0 none), (7, .ptr 4 0 none)], [.box 29 [.sc (.int .i64 0), .sc (.string ⟨#[]⟩), .sc (.int .i64 0), .sl 0 [] true, .sc (.int .i64 0)], .box 32 [.sc (.int .i64 0), .sc (.int .i64 0)], .box 32 (Fault.ch x.2), .box 44 [.sl 66 (List.map Token.av res.1) false, .sc (.int .i64 res.2.1), .sc (.int .i64 res.2.2.1), .sc (.int .i64 res.2.2.2.1), .sc (.int .i64 res.2.2.2.2.1), .sc (.int .i64 res.2.2.2.2.2.1)], .box 29 [.sc (.int .i64 1), .sc (.string ⟨#[]⟩), .sc (.int .i64 0), .own 5 1000000, .sc (.int .i64 0)], .row 29 (List.map Node.av res.2.2.2.2.2.2) 1000000 true]⟩)) :
    ∀ (m : Nat) (x_0 : List Token) (x_1 : Int) (x_2 : Int) (x_3 : Int) (x_4_0 : Int) (x_4_1 : Int) (o5 : List Node) (H : podestaref15_Parse_l0 x m x_0 x_1 x_2 x_3 x_4_0 x_4_1 o5 = some res), AX Try.prog tab podestaref15_Parse_F c0 (Rp tab.S c0 (.tup [Node.ag r.1, Fault.av r.2]) []) (some ⟨[.code [1, 1, 1, 1, 1, 0, 0, 0], .loop [1, 1, 1, 1, 1, 0, 0], .blk 0, .code [1, 1, 1, 1, 1, 1]], [(2, .ptr 0 0 none), (3, .ptr 1 0 none), (4, .sl 66 (List.map Token.av x.1) false), (6, .ptr 3 0 none), (7, .ptr 4 0 none)], [.box 29 [.sc (.int .i64 0), .sc (.string ⟨#[]⟩), .sc (.int .i64 0), .sl 0 [] true, .sc (.int .i64 0)], .box 32 [.sc (.int .i64 0), .sc (.int .i64 0)], .box 32 (Fault.ch x.2), .box 44 [.sl 66 (List.map Token.av x_0) false, .sc (.int .i64 x_1), .sc (.int .i64 x_2), .sc (.int .i64 x_3), .sc (.int .i64 x_4_0), .sc (.int .i64 x_4_1)], .box 29 [.sc (.int .i64 1), .sc (.string ⟨#[]⟩), .sc (.int .i64 0), .own 5 1000000, .sc (.int .i64 0)], .row 29 (List.map Node.av o5) 1000000 true]⟩) := by
  intro m
  induction m with
  | zero => intro x_0 x_1 x_2 x_3 x_4_0 x_4_1 o5 H; cases H
  | succ m ih =>
    intro x_0 x_1 x_2 x_3 x_4_0 x_4_1 o5 H
    rw [podestaref15_Parse_l0] at H
    refine .sg 2 [2,3,4,6,7] (.rg (.sg 7 [2,3,4,6,7,32] (.mx 0 [2,3,4,6,7,40] (.dn (.cd ((x_4_0 == 0) && (decide (x_1 < (((List.map Token.av x.1).length : Nat) : Int)))) H (fun hb H => ?_) (fun hb H => ?_))))))
    ·
      refine .sg 3 [2,3,4,6,7] (.rg (.sg 1 [2,3,4,6,7,41] (bndO H fun v hv H => (.ch [2,3,4,6,7,42] [3] (podestaref15_Eye_At_walk ({ L := x_0, I := x_1, End := x_2, Deep := x_3, F := ({ E := x_4_0, At := x_4_1 } : Fault) } : Eye) v hv) (.sg 3 [2,3,4,6,7,8] (.dn (.sg 2 [2,3,4,6,7,8] (.rg (.sg 1 [2,3,4,6,7,8,44] (bndO H fun v1 hv H => (.ch [2,3,4,6,7,8,45] [3] (podestaref15_Eye_Eat_walk v.2 (ByteArray.mk #[118, 97, 114]) v1 hv) (.dn (.cd v1.1 H (fun hb H => ?_) (fun hb H => ?_))))))))))))))
      ·
        refine .sg 3 [2,3,4,6,7,8] (.rg (.sg 1 [2,3,4,6,7,8,47] (bndO H fun v2 hv H => (.ch [2,3,4,6,7,8,48] [3] (podestaref15_Eye_Name_walk v1.2 v2 hv) (.sg 2 [2,3,4,6,7,8] (.dn (.sg 1 [2,3,4,6,7,8] (.rg (.sg 1 [2,3,4,6,7,8,50] (bndO H fun v3 hv H => (.ch [2,3,4,6,7,8] [3] (podestaref15_Eye_Must_walk v2.2 (ByteArray.mk #[61]) v3 hv) (.dn (.sg 1 [2,3,4,6,7,8] (.rg (.sg 1 [2,3,4,6,7,8,52] (bndO H fun v4 hv H => (.ch [2,3,4,6,7,8,53] [3] (podestaref15_Eye_Eat_walk v3 (ByteArray.mk #[45]) v4 hv) (.sg 1 [2,3,4,6,7,8,9] (.dn (.sg 1 [2,3,4,6,7,8,9] (.rg (.sg 1 [2,3,4,6,7,8,9,54] (bndO H fun v5 hv H => (.ch [2,3,4,6,7,8,9,55] [3] (podestaref15_Eye_Int_walk v4.2 v5 hv) (.sg 2 [2,3,4,6,7,8,9] (.dn (.sg 3 [2,3,4,6,7,8,57] (.cd v4.1 H (fun hb H => ?_) (fun hb H => ?_)))))))))))))))))))))))))))))
        ·
          exact .sg 1 [2,3,4,6,7,8] (.rg (.sg 1 [2,3,4,6,7,8,62] (bndO H fun v6 hv H => (.ch [2,3,4,6,7,8] [3] (podestaref15_Eye_Must_walk v5.2 (ByteArray.mk #[59]) v6 hv) (.dn (.rg (.sg 3 [2,3,4,6,7,75,76] (.wk 76 [(29, false)] (.bg [2,3,4,6,7,75,77] Node.av Node.ag Node.av_eq ([({ Kind := 2, Text := v2.1, Num := (IntKind.i64.wrap (0 - v5.1)), Kids := [], At := v.1 } : Node)] : List Node) 29 true (fitH H fun hfit H => (.ap [2,3,4,6,7,78] Node.av hfit (.sg 2 [2,3,4,6,7] (.dn (.sg 1 [2,3,4,6,7] (.tl hc0 [0,1,2,3,4,5] [2,3,4,6,7] (.into (.to (ih v6.L v6.I v6.End v6.Deep v6.F.E v6.F.At (o5 ++ [({ Kind := 2, Text := v2.1, Num := (IntKind.i64.wrap (0 - v5.1)), Kids := [], At := v.1 } : Node)]) H))))))))))))))))))
        ·
          exact .sg 1 [2,3,4,6,7,8] (.rg (.sg 1 [2,3,4,6,7,8,62] (bndO H fun v7 hv H => (.ch [2,3,4,6,7,8] [3] (podestaref15_Eye_Must_walk v5.2 (ByteArray.mk #[59]) v7 hv) (.dn (.rg (.sg 3 [2,3,4,6,7,75,76] (.wk 76 [(29, false)] (.bg [2,3,4,6,7,75,77] Node.av Node.ag Node.av_eq ([({ Kind := 2, Text := v2.1, Num := v5.1, Kids := [], At := v.1 } : Node)] : List Node) 29 true (fitH H fun hfit H => (.ap [2,3,4,6,7,78] Node.av hfit (.sg 2 [2,3,4,6,7] (.dn (.sg 1 [2,3,4,6,7] (.tl hc0 [0,1,2,3,4,5] [2,3,4,6,7] (.into (.to (ih v7.L v7.I v7.End v7.Deep v7.F.E v7.F.At (o5 ++ [({ Kind := 2, Text := v2.1, Num := v5.1, Kids := [], At := v.1 } : Node)]) H))))))))))))))))))
      ·
        exact .sg 1 [2,3,4,6,7,8] (.rg (.sg 1 [2,3,4,6,7,8,64] (bndO H fun v8 hv H => (.ch [2,3,4,6,7,8] [3] (podestaref15_Eye_Must_walk v1.2 (ByteArray.mk #[111, 110]) v8 hv) (.dn (.sg 3 [2,3,4,6,7,8] (.rg (.sg 1 [2,3,4,6,7,8,67] (bndO H fun v9 hv H => (.ch [2,3,4,6,7,8,68] [3] (podestaref15_Eye_Name_walk v8 v9 hv) (.sg 2 [2,3,4,6,7,8] (.dn (.rg (.sg 1 [2,3,4,6,7,8,70] (bndO H fun v10 hv H => (.ch [2,3,4,6,7,8,71] [3] ((eyeG_walk 400).2.2.2.2.2.2.2.2 v9.2 v10 hv) (.fd [2,3,4,6,7,8,72] (.sg 2 [2,3,4,6,7,8] (.dn (.rg (.sg 3 [2,3,4,6,7,75,76] (.bg [2,3,4,6,7,75,77] Node.av Node.ag Node.av_eq ([({ Kind := 3, Text := v9.1, Num := 0, Kids := v10.1.Kids, At := v.1 } : Node)] : List Node) 29 true (fitH H fun hfit H => (.ap [2,3,4,6,7,78] Node.av hfit (.sg 2 [2,3,4,6,7] (.dn (.sg 1 [2,3,4,6,7] (.tl hc0 [0,1,2,3,4,5] [2,3,4,6,7] (.into (.to (ih v10.2.L v10.2.I v10.2.End v10.2.Deep v10.2.F.E v10.2.F.At (o5 ++ [({ Kind := 3, Text := v9.1, Num := 0, Kids := v10.1.Kids, At := v.1 } : Node)]) H)))))))))))))))))))))))))))))))
    ·
      refine .sg 1 [2,3,6,7] (.kp [2,3,6,7] ?_)
      obtain rfl := Option.some.inj H
      exact .to J
def podestaref15_Parse_raw (q0 : Nat) (s : ByteArray) : Option (Node × Fault) :=
  (podestaref15_Scan_raw 20000 20000 20000 20000 20000 20000 s).bind fun x =>
  (bif (x.2.E != 0) then
    some (({ Kind := 0, Text := ⟨#[]⟩, Num := 0, Kids := [], At := 0 } : Node), x.2)
  else
    (podestaref15_Parse_l0 x q0 x.1 0 ((s.size : Nat) : Int) 0 0 0 ([] : List Node)).bind fun v =>
    (bif (v.2.2.2.2.1 != 0) then
      some (({ Kind := 0, Text := ⟨#[]⟩, Num := 0, Kids := [], At := 0 } : Node), ({ E := v.2.2.2.2.1, At := v.2.2.2.2.2.1 } : Fault))
    else
      some (({ Kind := 1, Text := ⟨#[]⟩, Num := 0, Kids := v.2.2.2.2.2.2, At := 0 } : Node), ({ E := 0, At := 0 } : Fault))))
theorem podestaref15_Parse_walk (q0 : Nat) (s : ByteArray) (r : Node × Fault) (H : podestaref15_Parse_raw q0 s = some r) : ACalls Try.prog tab.S 10 [.sc (.string s)] [] (.tup [Node.ag r.1, Fault.av r.2]) [] := by
  refine .of_AX podestaref15_Parse_F Try.func10 fun c0 hc0 => ?_
  rw [podestaref15_Parse_raw] at H
  refine .sg 3 [0,2,3] (.rg (.sg 1 [0,2,3,11] (bndO H fun x hv H => (.cp [0,2,3,12] ((podestaref15_Scan_walk 20000 20000 20000 20000 20000 20000) s x hv) (.sg 6 [0,2,3,4,5] (.dn (.sg 3 [0,2,3,4,5,17] (.cd (x.2.E != 0) H (fun hb H => ?_) (fun hb H => ?_)))))))))
  ·
    refine .sg 1 [2,3,5] (.rp hc0 [2, 3] [] [[0, 1, 2], [0, 1, 2]] .nil (by kernel_rfl) ?_)
    obtain rfl := Option.some.inj H
    exact .ret Try.func10 hc0 [] [(29, false)]
  ·
    refine .sg 7 [2,3,4,6,7] (.adb 4 3 29 ?_)
    refine bndO H fun v hv H => (.into (.to (podestaref15_Parse_l0_walk q0 s x r c0 hc0 v ?_ q0 x.1 0 ((s.size : Nat) : Int) 0 0 0 ([] : List Node) hv)))
    refine .sg 3 [2,3,6,7,85] (.cd (v.2.2.2.2.1 != 0) H (fun hb H => ?_) (fun hb H => ?_))
    ·
      refine .sg 1 [2,3,6] (.rp hc0 [2, 3] [] [[0, 1, 2, 3, 4, 5], [0, 1, 2, 3, 4, 5]] .nil (by kernel_rfl) ?_)
      obtain rfl := Option.some.inj H
      exact .ret Try.func10 hc0 [] [(29, false)]
    ·
      refine .sg 3 [2,3] ?_
      obtain rfl := Option.some.inj H
      exact .ret Try.func10 hc0

end Go.Proofs.Ytinmkhkehfjcaaa

set_option linter.unusedVariables false
set_option linter.unusedSimpArgs false
set_option maxRecDepth 100000
set_option maxHeartbeats 4000000
namespace Go.Proofs.Ytinmkhkehfjcaaa
open Go.Sh
/-! ### head.there: function 61 -/
noncomputable def head_there_F : Go.Sh.Fn := ⟨61, bodyOf Try.f61, 9⟩
def head_there (n : Int) : Bool :=
  ((decide (n ≥ 0)) && (decide (n < 12)))
theorem head_there_calls (n : Int) : ACalls Try.prog tab.S 61 [.sc (.int .i64 n)] [] (.sc (.bool (head_there n))) [] := by
  generalize H : head_there n = r
  refine .of_AX head_there_F Try.func61 fun c0 hc0 => ?_
  rw [head_there] at H
  refine .sg 3 [0] (.rg (.sg 3 [0,5] (.mx 0 [8] (.sg 1 [2] (.dn ?_)))))
  subst H
  exact .ret Try.func61 hc0

/-! ### head.fields: function 23 -/
noncomputable def head_fields_F : Go.Sh.Fn := ⟨23, bodyOf Try.f23, 14⟩
def head_fields : (List Field) :=
  [({ name := (ByteArray.mk #[105, 110]), size := 16 } : Field), ({ name := (ByteArray.mk #[101, 115, 114, 99]), size := 48 } : Field), ({ name := (ByteArray.mk #[101, 100, 115, 116]), size := 48 } : Field), ({ name := (ByteArray.mk #[101, 116, 121, 112, 101]), size := 16 } : Field), ({ name := (ByteArray.mk #[118, 108, 97, 110]), size := 12 } : Field), ({ name := (ByteArray.mk #[112, 99, 112]), size := 4 } : Field), ({ name := (ByteArray.mk #[115, 114, 99]), size := 32 } : Field), ({ name := (ByteArray.mk #[100, 115, 116]), size := 32 } : Field), ({ name := (ByteArray.mk #[112, 114, 111, 116, 111]), size := 8 } : Field), ({ name := (ByteArray.mk #[116, 111, 115]), size := 8 } : Field), ({ name := (ByteArray.mk #[115, 112, 111, 114, 116]), size := 12 } : Field), ({ name := (ByteArray.mk #[100, 112, 111, 114, 116]), size := 12 } : Field)]
theorem head_fields_calls : ACalls Try.prog tab.S 23 [] [] (.agg (List.flatMap Field.ch (head_fields))) [] := by
  generalize H : head_fields = r
  refine .of_AX head_fields_F Try.func23 fun c0 hc0 => ?_
  rw [head_fields] at H
  refine .sg 4 [0] ?_
  subst H
  exact .ret Try.func23 hc0

/-! ### head.Size: function 57 -/
noncomputable def head_Size_F : Go.Sh.Fn := ⟨57, bodyOf Try.f57, 10⟩
def head_Size_raw (n : Int) : Option (Int) :=
  (bif (!(head_there n)) then
    some 0
  else
    (ixO head_fields n).bind fun x =>
    some x.size)
theorem head_Size_walk (n : Int) (r : Int) (H : head_Size_raw n = some r) : ACalls Try.prog tab.S 57 [.sc (.int .i64 n)] [] (.sc (.int .i64 r)) [] := by
  refine .of_AX head_Size_F Try.func57 fun c0 hc0 => ?_
  rw [head_Size_raw] at H
  refine .sg 4 [0] (.rg (.sg 1 [0,3] (.cp [0,4] (head_there_calls n) (.sg 1 [0,5] (.dn (.cd (!(head_there n)) H (fun hb H => ?_) (fun hb H => ?_)))))))
  ·
    refine .sg 2 [2] ?_
    obtain rfl := Option.some.inj H
    exact .ret Try.func57 hc0
  ·
    refine .sg 2 [0] (.rg (.cp [0,6] (head_fields_calls) (.sg 1 [6,7] (bndO H fun x hv H => (.xr [8] head_fields Field.ch 2 hv (.fd [9] (.sg 1 [2] (.dn ?_))))))))
    obtain rfl := Option.some.inj H
    exact .ret Try.func57 hc0

theorem head_Size_ok (n : Int) : ACalls Try.prog tab.S 57 [.sc (.int .i64 n)] [] (.sc (.int .i64 (sizeT n))) [] := by
  refine head_Size_walk n (sizeT n) ?_
  rw [head_Size_raw, head_there]
  rcases sizeT_cases n with ⟨h, e⟩ | ⟨h1, h2, k, rfl, hk, e⟩
  · rw [e]
    have : (decide (n ≥ 0) && decide (n < 12)) = false := by
      rw [Bool.and_eq_false_iff, decide_eq_false_iff_not, decide_eq_false_iff_not]; omega
    rw [this]
    rfl
  · rw [e, decide_eq_true h1, decide_eq_true h2]
    match k, hk with
    | 0, _ | 1, _ | 2, _ | 3, _ | 4, _ | 5, _ | 6, _ | 7, _ | 8, _ | 9, _ | 10, _ | 11, _ => rfl

/-! ### slices.IndexFunc: function 24 -/
noncomputable def slices_IndexFunc__head_field_F : Go.Sh.Fn := ⟨24, bodyOf Try.f24, 19⟩
def slices_IndexFunc__head_field_l0s (f : Field → Bool) : List Field → Nat → Sum (Unit) (Int)
  | [], t8 =>
    (.inl ())
  | x :: rest, t8 =>
    (bif (f x) then
      (.inr ((t8 : Nat) : Int))
    else
      slices_IndexFunc__head_field_l0s f rest (t8 + 1) )
theorem slices_IndexFunc__head_field_l0_walk (s : List Field) (F_f : FuncId) (C_f : List AV) (f : Field → Bool) (P_f : plainL C_f = true) (O_f : C_f.all oneA = true) (H_f : ∀ (y0 : Field), ACalls Try.prog tab.S F_f ([Field.av y0] ++ C_f) [] (.sc (.bool (f y0))) []) (f_s : Bool) (r : Int) (c0 : Ctx) (hc0 : c0.m.length = 0) (res : Sum (Unit) (Int)) (J : ∀ w : Unit, res = .inl w → AX Try.prog tab slices_IndexFunc__head_field_F c0 (Rp tab.S c0 (.sc (.int .i64 r)) []) (some ⟨[.code [1, 1]], [], []⟩)) (Jr : ∀ w, res = .inr w → w = r) :
    ∀ (rest : List Field) (t8 : Nat) (z : Int) (hI : z = ((t8 : Nat) : Int)) (hd : s.drop t8 = rest) (H : slices_IndexFunc__head_field_l0s f rest t8 = res), AX Try.prog tab slices_IndexFunc__head_field_F c0 (Rp tab.S c0 (.sc (.int .i64 r)) []) (some ⟨[.code [1, 0, 1, 0, 0], .loop [1, 0, 1, 0], .blk 0, .code [1, 1]], [(0, .sl 57 (List.map Field.av s) f_s), (1, .fn F_f C_f), (7, .sc (.int .i64 (((List.map Field.av s).length : Nat) : Int))), (8, .sc (.int .i64 z))], []⟩) := by
  intro rest
  induction rest with
  | nil =>
    intro t8 z hI hd  H
    subst hI
    rw [slices_IndexFunc__head_field_l0s] at H
    refine .facts 0 fun hf => ?_
    have hlen : s.length ≤ 9223372036854775807 := by have hq := len_ok hf.2.1; rw [List.length_map] at hq; exact hq
    have hge : s.length ≤ t8 := List.drop_eq_nil_iff.1 hd
    have hc : (decide (((t8 : Nat) : Int) < (((List.map Field.av s).length : Nat) : Int))) = false := by rw [List.length_map]; exact decide_eq_false (by omega)
    exact .sg 3 [0,1,7,8,9] (.cdF hc (.sg 1 [] (.kp [] (.to (J () H.symm)))))
  | cons x rest ih =>
    intro t8 z hI hd  H
    subst hI
    rw [slices_IndexFunc__head_field_l0s] at H
    refine .facts 0 fun hf => ?_
    have hlen : s.length ≤ 9223372036854775807 := by have hq := len_ok hf.2.1; rw [List.length_map] at hq; exact hq
    obtain ⟨hlt, hv_t8, hd2⟩ := drop_cons hd
    have hc : (decide (((t8 : Nat) : Int) < (((List.map Field.av s).length : Nat) : Int))) = true := by rw [List.length_map]; exact decide_eq_true (by omega)
    have hw : IntKind.i64.wrap (((t8 : Nat) : Int) + 1) = ((t8 + 1 : Nat) : Int) := wrapI_succ (by omega)
    refine .sg 3 [0,1,7,8,9] (.cdT hc (.sg 6 [0,1,5,7,8] (.rg (.sg 3 [0,1,5,7,8,11,12,13] (.xi [0,1,5,7,8,11,14] Field.av hv_t8 (.sg 1 [0,1,5,7,8,11,15] (.cf [0,1,5,7,8,16] (H_f x) P_f O_f (.dn (.cd (f x) H (fun hb H => ?_) (fun hb H => ?_))))))))))
    ·
      refine .sg 2 [4] ?_
      subst H
      obtain rfl := Jr _ rfl
      exact .ret Try.func24 hc0
    ·
      exact .sg 3 [0,1,7,8] (.kp [0,1,7,8] (.into (.cl (ih (t8 + 1) _ hw hd2 H))))

def slices_IndexFunc__head_field (s : List Field) (f : Field → Bool) : Int :=
  sumG (fun q => q) (slices_IndexFunc__head_field_l0s f s 0) fun v =>
  (-1)
theorem slices_IndexFunc__head_field_calls (s : List Field) (F_f : FuncId) (C_f : List AV) (f : Field → Bool) (P_f : plainL C_f = true) (O_f : C_f.all oneA = true) (H_f : ∀ (y0 : Field), ACalls Try.prog tab.S F_f ([Field.av y0] ++ C_f) [] (.sc (.bool (f y0))) []) (f_s : Bool) : ACalls Try.prog tab.S 24 [.sl 57 (List.map Field.av s) f_s, .fn F_f C_f] [] (.sc (.int .i64 (slices_IndexFunc__head_field s f))) [] := by
  generalize H : slices_IndexFunc__head_field s f = r
  refine .of_AX slices_IndexFunc__head_field_F Try.func24 fun c0 hc0 => ?_
  rw [slices_IndexFunc__head_field] at H
  refine .sg 6 [0,1,7,8] ?_
  rcases sumG_eq H with ⟨v, hv, H⟩ | ⟨r1, hv, hr1⟩
  case inr =>
    refine .into ?_
    replace hr1 : r1 = r := hr1
    subst hr1
    exact .to (slices_IndexFunc__head_field_l0_walk s F_f C_f f P_f O_f H_f f_s _ c0 hc0 (.inr _) (fun _ e => by cases e) (fun _ e => (Sum.inr.inj e).symm) s 0 _ rfl rfl hv)
  refine .into (.to (slices_IndexFunc__head_field_l0_walk s F_f C_f f P_f O_f H_f f_s r c0 hc0 (.inl v) (fun w e => ?_) (fun _ e => by cases e) s 0 _ rfl rfl hv))
  have e := Sum.inl.inj e
  subst e
  refine .sg 2 [4] ?_
  subst H
  exact .ret Try.func24 hc0

theorem slices_IndexFunc__head_field_l0s_eq (f : Field → Bool) : ∀ (l : List Field) (i : Nat), slices_IndexFunc__head_field_l0s f l i = match l.findIdx? f with | some k => .inr ((i + k : Nat) : Int) | none => .inl ()
  | [], i => rfl
  | x :: l, i => by
      rw [slices_IndexFunc__head_field_l0s, List.findIdx?_cons, slices_IndexFunc__head_field_l0s_eq f l (i + 1)]
      cases f x
      · simp only [cond_false, Bool.false_eq_true, if_false]
        cases l.findIdx? f with
        | none => rfl
        | some k => simp only [Option.map_some]; rw [show i + 1 + k = i + (k + 1) by omega]
      · rfl
theorem slices_IndexFunc__head_field_idx (s : List Field) (f : Field → Bool) : slices_IndexFunc__head_field s f = idxF f s := by
  rw [slices_IndexFunc__head_field, slices_IndexFunc__head_field_l0s_eq]
  unfold idxF sumG
  cases s.findIdx? f with
  | none => rfl
  | some k => simp only [Nat.zero_add]

/-! ### head.Field$1: function 25 -/
noncomputable def head_Field_1_F : Go.Sh.Fn := ⟨25, bodyOf Try.f25, 8⟩
def head_Field_1 (f : Field) (c : ByteArray) : Bool :=
  (f.name == c)
theorem head_Field_1_calls (f : Field) (c : ByteArray) : ACalls Try.prog tab.S 25 [Field.av f, .ep [.sc (.string c)] 0 none] [] (.sc (.bool (head_Field_1 f c))) [] := by
  generalize H : head_Field_1 f c = r
  refine .of_AX head_Field_1_F Try.func25 fun c0 hc0 => ?_
  rw [head_Field_1] at H
  refine .sg 4 [3] ?_
  subst H
  exact .ret Try.func25 hc0

/-! ### head.Field: function 12 -/
noncomputable def head_Field_F : Go.Sh.Fn := ⟨12, bodyOf Try.f12, 14⟩
def head_Field (name : ByteArray) : Int × Bool :=
  ((if 0 > (slices_IndexFunc__head_field head_fields (fun y0 => head_Field_1 y0 name)) then 0 else (slices_IndexFunc__head_field head_fields (fun y0 => head_Field_1 y0 name))), (decide ((slices_IndexFunc__head_field head_fields (fun y0 => head_Field_1 y0 name)) ≥ 0)))
theorem head_Field_calls (name : ByteArray) : ACalls Try.prog tab.S 12 [.sc (.string name)] [] (.tup [.sc (.int .i64 ((head_Field name).1)), .sc (.bool ((head_Field name).2))]) [] := by
  generalize H : head_Field name = r
  refine .of_AX head_Field_F Try.func12 fun c0 hc0 => ?_
  rw [head_Field] at H
  refine .sg 1 [0] (.rg (.bx [1] (.sg 2 [1] (.dn (.sg 1 [1] (.rg (.cp [1,6] (head_fields_calls) (.sg 2 [1,4] (.dn (.sg 1 [1,4] (.gb hc0 0 [] [1,4] (.rg (.ser [1,7] Field.av Field.ch (fun _ => rfl) head_fields 57 12 (.sg 1 [7,8] (.cl_ [9] (caps := []) (slices_IndexFunc__head_field_calls head_fields 25 [.ep [.sc (.string name)] 0 none] (fun y0 => head_Field_1 y0 name) rfl rfl (fun y0 => head_Field_1_calls y0 name) true) (.same rfl (.fn (caps := [.ep [.sc (.string name)] 0 none]) (by kernel_rfl) .nil)) (by kernel_rfl) rfl rfl (.sg 1 [5] (.dn (.sg 2 [2,3] ?_))))))))))))))))))
  subst H
  exact .ret Try.func12 hc0

/-! ### podestaref01.Name: function 26 -/
noncomputable def podestaref01_Name_F : Go.Sh.Fn := ⟨26, bodyOf Try.f26, 13⟩
def podestaref01_Name_raw (field : Int) : Option (ByteArray) :=
  (bif ((decide (field < 0)) || (decide (field > 11))) then
    some (ByteArray.mk #[])
  else
    (ixO [(ByteArray.mk #[105, 110]), (ByteArray.mk #[101, 115, 114, 99]), (ByteArray.mk #[101, 100, 115, 116]), (ByteArray.mk #[101, 116, 121, 112, 101]), (ByteArray.mk #[118, 108, 97, 110]), (ByteArray.mk #[112, 99, 112]), (ByteArray.mk #[115, 114, 99]), (ByteArray.mk #[100, 115, 116]), (ByteArray.mk #[112, 114, 111, 116, 111]), (ByteArray.mk #[116, 111, 115]), (ByteArray.mk #[115, 112, 111, 114, 116]), (ByteArray.mk #[100, 112, 111, 114, 116])] field).bind fun x =>
    some x)
theorem podestaref01_Name_walk (field : Int) (r : ByteArray) (H : podestaref01_Name_raw field = some r) : ACalls Try.prog tab.S 26 [.sc (.int .i64 field)] [] (.sc (.string r)) [] := by
  refine .of_AX podestaref01_Name_F Try.func26 fun c0 hc0 => ?_
  rw [podestaref01_Name_raw] at H
  refine .sg 4 [0] (.rg (.sg 3 [0,5] (.mx 1 [0,8] (.dn (.cd ((decide (field < 0)) || (decide (field > 11))) H (fun hb H => ?_) (fun hb H => ?_))))))
  ·
    refine .sg 2 [2] ?_
    obtain rfl := Option.some.inj H
    exact .ret Try.func26 hc0
  ·
    refine .sg 2 [0] (.rg (.sg 2 [9,10] (bndO H fun x hv H => (.xi [11] strA hv (.sg 2 [2] (.dn ?_))))))
    obtain rfl := Option.some.inj H
    exact .ret Try.func26 hc0

/-! ### podestaref01.Field: function 13 -/
noncomputable def podestaref01_Field_F : Go.Sh.Fn := ⟨13, bodyOf Try.f13, 14⟩
def podestaref01_Field_l0s (name : ByteArray) : Nat → Nat → Option (Sum (Unit) (Int × Bool))
  | 0, i =>
    some (.inl ())
  | rest + 1, i =>
    (podestaref01_Name_raw ((i : Nat) : Int)).bind fun x1 =>
    (bif (x1 == name) then
      some (.inr (((i : Nat) : Int), true))
    else
      podestaref01_Field_l0s name rest (i + 1) )
theorem podestaref01_Field_l0_walk (name : ByteArray) (r : Int × Bool) (c0 : Ctx) (hc0 : c0.m.length = 0) (res : Sum (Unit) (Int × Bool)) (J : ∀ w : Unit, res = .inl w → AX Try.prog tab podestaref01_Field_F c0 (Rp tab.S c0 (.tup [.sc (.int .i64 r.1), .sc (.bool r.2)]) []) (some ⟨[.code [1, 1]], [], []⟩)) (Jr : ∀ w, res = .inr w → w = r) :
    ∀ (rest : Nat) (i : Nat) (z : Int) (hI : z = ((i : Nat) : Int)) (hd : i + rest = 12) (H : podestaref01_Field_l0s name rest i = some res), AX Try.prog tab podestaref01_Field_F c0 (Rp tab.S c0 (.tup [.sc (.int .i64 r.1), .sc (.bool r.2)]) []) (some ⟨[.code [1, 0, 1, 0, 0], .loop [1, 0, 1, 0], .blk 0, .code [1, 1]], [(0, .sc (.string name)), (4, .sc (.int .i64 z))], []⟩) := by
  intro rest
  induction rest with
  | zero =>
    intro i z hI hd  H
    subst hI
    rw [podestaref01_Field_l0s] at H
    have hc : (decide (((i : Nat) : Int) < 12)) = false := decide_eq_false (by omega)
    exact .sg 3 [0,4,6] (.cdF hc (.sg 1 [] (.kp [] (.to (J () (Option.some.inj H).symm)))))
  | succ rest ih =>
    intro i z hI hd  H
    subst hI
    rw [podestaref01_Field_l0s] at H
    have hlt_i : i < 12 := by omega
    have hc : (decide (((i : Nat) : Int) < 12)) = true := decide_eq_true (by omega)
    have hw : IntKind.i64.wrap (((i : Nat) : Int) + 1) = ((i + 1 : Nat) : Int) := wrapI_succ (by omega)
    refine .sg 3 [0,4,6] (.cdT hc (.sg 4 [0,4] (.rg (.sg 1 [0,4,9] (bndO H fun x1 hv H => (.cp [0,4,10] (podestaref01_Name_walk ((i : Nat) : Int) x1 hv) (.sg 2 [0,4,12] (.dn (.cd (x1 == name) H (fun hb H => ?_) (fun hb H => ?_))))))))))
    ·
      refine .sg 2 [2,3] ?_
      obtain rfl := Option.some.inj H
      obtain rfl := Jr _ rfl
      exact .ret Try.func13 hc0
    ·
      exact .sg 3 [0,4] (.kp [0,4] (.into (.cl (ih (i + 1) _ hw (by omega) H))))

def podestaref01_Field_raw (name : ByteArray) : Option (Int × Bool) :=
  loopO (podestaref01_Field_l0s name 12 0) fun v =>
  some (0, false)
theorem podestaref01_Field_walk (name : ByteArray) (r : Int × Bool) (H : podestaref01_Field_raw name = some r) : ACalls Try.prog tab.S 13 [.sc (.string name)] [] (.tup [.sc (.int .i64 r.1), .sc (.bool r.2)]) [] := by
  refine .of_AX podestaref01_Field_F Try.func13 fun c0 hc0 => ?_
  rw [podestaref01_Field_raw] at H
  refine .sg 6 [0,4] ?_
  rcases loopO_some H with ⟨v, hv, H⟩ | hv
  case inr =>
    exact .into (.to (podestaref01_Field_l0_walk name _ c0 hc0 (.inr _) (fun _ e => by cases e) (fun _ e => (Sum.inr.inj e).symm) 12 0 _ rfl rfl hv))
  refine .into (.to (podestaref01_Field_l0_walk name r c0 hc0 (.inl v) (fun w e => ?_) (fun _ e => by cases e) 12 0 _ rfl rfl hv))
  have e := Sum.inl.inj e
  subst e
  refine .sg 2 [2,3] ?_
  obtain rfl := Option.some.inj H
  exact .ret Try.func13 hc0

/-! ### podestaref15.Known: function 9 -/
noncomputable def podestaref15_Known_F : Go.Sh.Fn := ⟨9, bodyOf Try.f9, 33⟩
def podestaref15_Known_raw (on : ByteArray) (name : ByteArray) : Option (Bool) :=
  (podestaref01_Field_raw name).bind fun x =>
  some (((on == (ByteArray.mk #[112, 97, 99, 107, 101, 116])) && ((x.2 || (name == (ByteArray.mk #[117, 110, 105, 116]))) || (name == (ByteArray.mk #[112, 111, 114, 116])))) || ((on == (ByteArray.mk #[114, 101, 109, 111, 118, 101, 100])) && (name == (ByteArray.mk #[117, 110, 105, 116]))))
theorem podestaref15_Known_walk (on : ByteArray) (name : ByteArray) (r : Bool) (H : podestaref15_Known_raw on name = some r) : ACalls Try.prog tab.S 9 [.sc (.string on), .sc (.string name)] [] (.sc (.bool r)) [] := by
  refine .of_AX podestaref15_Known_F Try.func9 fun c0 hc0 => ?_
  rw [podestaref15_Known_raw] at H
  refine .sg 3 [0,1] (.rg (.sg 1 [0,1,8] (bndO H fun x hv H => (.cp [0,1,9] (podestaref01_Field_walk name x hv) (.sg 5 [0,1,6] (.dn (.sg 1 [0,1,6] (.rg (.sg 3 [0,1,6,14] (.mm 14 (on == (ByteArray.mk #[112, 97, 99, 107, 101, 116])) 10 [.pure, .pure, .pure, .pure, .pure, .pure, .pure, .pure, .pure, .pure] [0, 1, 24] 24 (fun z => .sc (.bool (z && ((x.2 || (name == (ByteArray.mk #[117, 110, 105, 116]))) || (name == (ByteArray.mk #[112, 111, 114, 116])))))) ?J3 (fun hb J => ?ht3) (fun hb J => ?hf3)))))))))))
  case ht3 =>
    exact .sg 2 [0,1,14,16] (.mx 1 [0,1,14,19] (.sg 1 [0,1,14,20] (.mx 1 [0,1,14,23] (.sg 1 [0,1,24] (.cl J)))))
  case hf3 =>
    exact .sg 10 [0,1,24] (.cl J)
  refine .sg 1 [0,1,25] (.mm 25 ((on == (ByteArray.mk #[112, 97, 99, 107, 101, 116])) && ((x.2 || (name == (ByteArray.mk #[117, 110, 105, 116]))) || (name == (ByteArray.mk #[112, 111, 114, 116])))) 7 [.pure, .pure, .pure, .pure, .pure, .pure, .pure] [32] 32 (fun z => .sc (.bool (z || ((on == (ByteArray.mk #[114, 101, 109, 111, 118, 101, 100])) && (name == (ByteArray.mk #[117, 110, 105, 116])))))) ?J7 (fun hb J => ?ht7) (fun hb J => ?hf7))
  case ht7 =>
    exact .sg 7 [32] (.cl J)
  case hf7 =>
    exact .sg 3 [1,25,28] (.mx 0 [25,31] (.sg 1 [32] (.cl J)))
  refine .sg 1 [4] (.dn ?_)
  obtain rfl := Option.some.inj H
  exact .ret Try.func9 hc0

/-! ### check.Events: function 7 -/
noncomputable def check_Events_F : Go.Sh.Fn := ⟨7, bodyOf Try.f7, 2⟩
def check_Events : (List ByteArray) :=
  [(ByteArray.mk #[112, 97, 99, 107, 101, 116]), (ByteArray.mk #[114, 101, 109, 111, 118, 101, 100]), (ByteArray.mk #[116, 105, 99, 107])]
theorem check_Events_calls : ACalls Try.prog tab.S 7 [] [] (.sl 9 (List.map strA (check_Events)) true) [] := by
  generalize H : check_Events = r
  refine .of_AX check_Events_F Try.func7 fun c0 hc0 => ?_
  rw [check_Events] at H
  refine .sg 4 [0] ?_
  subst H
  exact .ret Try.func7 hc0

/-! ### check.Known: function 8 -/
noncomputable def check_Known_F : Go.Sh.Fn := ⟨8, bodyOf Try.f8, 28⟩
def check_Known (on : ByteArray) (name : ByteArray) : Bool :=
  (bif (on == (ByteArray.mk #[112, 97, 99, 107, 101, 116])) then
    (((head_Field name).2 || (name == (ByteArray.mk #[117, 110, 105, 116]))) || (name == (ByteArray.mk #[112, 111, 114, 116])))
  else
    (bif (on == (ByteArray.mk #[114, 101, 109, 111, 118, 101, 100])) then
      (name == (ByteArray.mk #[117, 110, 105, 116]))
    else
      false))
theorem check_Known_calls (on : ByteArray) (name : ByteArray) : ACalls Try.prog tab.S 8 [.sc (.string on), .sc (.string name)] [] (.sc (.bool (check_Known on name))) [] := by
  generalize H : check_Known on name = r
  refine .of_AX check_Known_F Try.func8 fun c0 hc0 => ?_
  rw [check_Known] at H
  refine .sg 3 [0,1] (.rg (.sg 1 [0,1,8] (.cp [0,1,9] (head_Field_calls name) (.sg 5 [0,1,6] (.dn (.sg 6 [1,6,12,13] (.cd (on == (ByteArray.mk #[112, 97, 99, 107, 101, 116])) H (fun hb H => ?_) (fun hb H => ?_))))))))
  ·
    refine .sg 1 [1,6] (.rg (.sg 2 [1,16] (.mx 1 [1,19] (.sg 1 [1,20] (.mx 1 [23] (.sg 1 [4] (.dn ?_)))))))
    subst H
    exact .ret Try.func8 hc0
  ·
    refine .sg 2 [1,24] (.cd (on == (ByteArray.mk #[114, 101, 109, 111, 118, 101, 100])) H (fun hb H => ?_) (fun hb H => ?_))
    ·
      refine .sg 2 [4] ?_
      subst H
      exact .ret Try.func8 hc0
    ·
      refine .sg 4 [4] ?_
      subst H
      exact .ret Try.func8 hc0

structure Checker where
  vars : List (ByteArray × Int)
  on : ByteArray
  f : Fault
  deriving DecidableEq, Inhabited
end Go.Proofs.Ytinmkhkehfjcaaa

set_option linter.unusedVariables false
set_option linter.unusedSimpArgs false
set_option maxRecDepth 100000
set_option maxHeartbeats 4000000
namespace Go.Proofs.Ytinmkhkehfjcaaa
open Go.Sh
/-! ### slices.IndexFunc: function 54 -/
noncomputable def slices_IndexFunc__string_F : Go.Sh.Fn := ⟨54, bodyOf Try.f54, 19⟩
def slices_IndexFunc__string_l0s (f : ByteArray → Bool) : List ByteArray → Nat → Sum (Unit) (Int)
  | [], t8 =>
    (.inl ())
  | x :: rest, t8 =>
    (bif (f x) then
      (.inr ((t8 : Nat) : Int))
    else
      slices_IndexFunc__string_l0s f rest (t8 + 1) )
theorem slices_IndexFunc__string_l0_walk (s : List ByteArray) (F_f : FuncId) (C_f : List AV) (f : ByteArray → Bool) (P_f : plainL C_f = true) (O_f : C_f.all oneA = true) (H_f : ∀ (y0 : ByteArray), ACalls Try.prog tab.S F_f ([.sc (.string y0)] ++ C_f) [] (.sc (.bool (f y0))) []) (f_s : Bool) (r : Int) (c0 : Ctx) (hc0 : c0.m.length = 0) (res : Sum (Unit) (Int)) (J : ∀ w : Unit, res = .inl w → AX Try.prog tab slices_IndexFunc__string_F c0 (Rp tab.S c0 (.sc (.int .i64 r)) []) (some ⟨[.code [1, 1]], [], []⟩)) (Jr : ∀ w, res = .inr w → w = r) :
    ∀ (rest : List ByteArray) (t8 : Nat) (z : Int) (hI : z = ((t8 : Nat) : Int)) (hd : s.drop t8 = rest) (H : slices_IndexFunc__string_l0s f rest t8 = res), AX Try.prog tab slices_IndexFunc__string_F c0 (Rp tab.S c0 (.sc (.int .i64 r)) []) (some ⟨[.code [1, 0, 1, 0, 0], .loop [1, 0, 1, 0], .blk 0, .code [1, 1]], [(0, .sl 9 (List.map strA s) f_s), (1, .fn F_f C_f), (7, .sc (.int .i64 (((List.map strA s).length : Nat) : Int))), (8, .sc (.int .i64 z))], []⟩) := by
  intro rest
  induction rest with
  | nil =>
    intro t8 z hI hd  H
    subst hI
    rw [slices_IndexFunc__string_l0s] at H
    refine .facts 0 fun hf => ?_
    have hlen : s.length ≤ 9223372036854775807 := by have hq := len_ok hf.2.1; rw [List.length_map] at hq; exact hq
    have hge : s.length ≤ t8 := List.drop_eq_nil_iff.1 hd
    have hc : (decide (((t8 : Nat) : Int) < (((List.map strA s).length : Nat) : Int))) = false := by rw [List.length_map]; exact decide_eq_false (by omega)
    exact .sg 3 [0,1,7,8,9] (.cdF hc (.sg 1 [] (.kp [] (.to (J () H.symm)))))
  | cons x rest ih =>
    intro t8 z hI hd  H
    subst hI
    rw [slices_IndexFunc__string_l0s] at H
    refine .facts 0 fun hf => ?_
    have hlen : s.length ≤ 9223372036854775807 := by have hq := len_ok hf.2.1; rw [List.length_map] at hq; exact hq
    obtain ⟨hlt, hv_t8, hd2⟩ := drop_cons hd
    have hc : (decide (((t8 : Nat) : Int) < (((List.map strA s).length : Nat) : Int))) = true := by rw [List.length_map]; exact decide_eq_true (by omega)
    have hw : IntKind.i64.wrap (((t8 : Nat) : Int) + 1) = ((t8 + 1 : Nat) : Int) := wrapI_succ (by omega)
    refine .sg 3 [0,1,7,8,9] (.cdT hc (.sg 6 [0,1,5,7,8] (.rg (.sg 3 [0,1,5,7,8,11,12,13] (.xi [0,1,5,7,8,11,14] strA hv_t8 (.sg 1 [0,1,5,7,8,11,15] (.cf [0,1,5,7,8,16] (H_f x) P_f O_f (.dn (.cd (f x) H (fun hb H => ?_) (fun hb H => ?_))))))))))
    ·
      refine .sg 2 [4] ?_
      subst H
      obtain rfl := Jr _ rfl
      exact .ret Try.func54 hc0
    ·
      exact .sg 3 [0,1,7,8] (.kp [0,1,7,8] (.into (.cl (ih (t8 + 1) _ hw hd2 H))))

def slices_IndexFunc__string (s : List ByteArray) (f : ByteArray → Bool) : Int :=
  sumG (fun q => q) (slices_IndexFunc__string_l0s f s 0) fun v =>
  (-1)
theorem slices_IndexFunc__string_calls (s : List ByteArray) (F_f : FuncId) (C_f : List AV) (f : ByteArray → Bool) (P_f : plainL C_f = true) (O_f : C_f.all oneA = true) (H_f : ∀ (y0 : ByteArray), ACalls Try.prog tab.S F_f ([.sc (.string y0)] ++ C_f) [] (.sc (.bool (f y0))) []) (f_s : Bool) : ACalls Try.prog tab.S 54 [.sl 9 (List.map strA s) f_s, .fn F_f C_f] [] (.sc (.int .i64 (slices_IndexFunc__string s f))) [] := by
  generalize H : slices_IndexFunc__string s f = r
  refine .of_AX slices_IndexFunc__string_F Try.func54 fun c0 hc0 => ?_
  rw [slices_IndexFunc__string] at H
  refine .sg 6 [0,1,7,8] ?_
  rcases sumG_eq H with ⟨v, hv, H⟩ | ⟨r1, hv, hr1⟩
  case inr =>
    refine .into ?_
    replace hr1 : r1 = r := hr1
    subst hr1
    exact .to (slices_IndexFunc__string_l0_walk s F_f C_f f P_f O_f H_f f_s _ c0 hc0 (.inr _) (fun _ e => by cases e) (fun _ e => (Sum.inr.inj e).symm) s 0 _ rfl rfl hv)
  refine .into (.to (slices_IndexFunc__string_l0_walk s F_f C_f f P_f O_f H_f f_s r c0 hc0 (.inl v) (fun w e => ?_) (fun _ e => by cases e) s 0 _ rfl rfl hv))
  have e := Sum.inl.inj e
  subst e
  refine .sg 2 [4] ?_
  subst H
  exact .ret Try.func54 hc0

theorem slices_IndexFunc__string_l0s_eq (f : ByteArray → Bool) : ∀ (l : List ByteArray) (i : Nat), slices_IndexFunc__string_l0s f l i = match l.findIdx? f with | some k => .inr ((i + k : Nat) : Int) | none => .inl ()
  | [], i => rfl
  | x :: l, i => by
      rw [slices_IndexFunc__string_l0s, List.findIdx?_cons, slices_IndexFunc__string_l0s_eq f l (i + 1)]
      cases f x
      · simp only [cond_false, Bool.false_eq_true, if_false]
        cases l.findIdx? f with
        | none => rfl
        | some k => simp only [Option.map_some]; rw [show i + 1 + k = i + (k + 1) by omega]
      · rfl
theorem slices_IndexFunc__string_idx (s : List ByteArray) (f : ByteArray → Bool) : slices_IndexFunc__string s f = idxF f s := by
  rw [slices_IndexFunc__string, slices_IndexFunc__string_l0s_eq]
  unfold idxF sumG
  cases s.findIdx? f with
  | none => rfl
  | some k => simp only [Nat.zero_add]

/-! ### slices.ContainsFunc: function 48 -/
noncomputable def slices_ContainsFunc__string_F : Go.Sh.Fn := ⟨48, bodyOf Try.f48, 9⟩
def slices_ContainsFunc__string (s : List ByteArray) (f : ByteArray → Bool) : Bool :=
  (decide ((slices_IndexFunc__string s f) ≥ 0))
theorem slices_ContainsFunc__string_calls (s : List ByteArray) (F_f : FuncId) (C_f : List AV) (f : ByteArray → Bool) (P_f : plainL C_f = true) (O_f : C_f.all oneA = true) (H_f : ∀ (y0 : ByteArray), ACalls Try.prog tab.S F_f ([.sc (.string y0)] ++ C_f) [] (.sc (.bool (f y0))) []) (f_s : Bool) : ACalls Try.prog tab.S 48 [.sl 9 (List.map strA s) f_s, .fn F_f C_f] [] (.sc (.bool (slices_ContainsFunc__string s f))) [] := by
  generalize H : slices_ContainsFunc__string s f = r
  refine .of_AX slices_ContainsFunc__string_F Try.func48 fun c0 hc0 => ?_
  rw [slices_ContainsFunc__string] at H
  refine .sg 3 [0,1] (.rg (.sg 2 [5,6] (.cl_ [7] (caps := []) (slices_IndexFunc__string_calls s F_f C_f f P_f O_f H_f f_s) (.same rfl (.fn (caps := C_f) (lendC_plain C_f P_f) .nil)) (by kernel_rfl) rfl rfl (.sg 2 [4] (.dn ?_)))))
  subst H
  exact .ret Try.func48 hc0

theorem slices_ContainsFunc__string_any (s : List ByteArray) (f : ByteArray → Bool) : slices_ContainsFunc__string s f = s.any f := by
  rw [slices_ContainsFunc__string, slices_IndexFunc__string_idx, idxF_any]

/-! ### check.anyOf$1: function 49 -/
noncomputable def check_anyOf_1_F : Go.Sh.Fn := ⟨49, bodyOf Try.f49, 7⟩
def check_anyOf_1 (on : ByteArray) (c : ByteArray) : Bool :=
  (check_Known on c)
theorem check_anyOf_1_calls (on : ByteArray) (c : ByteArray) : ACalls Try.prog tab.S 49 [.sc (.string on), .ep [.sc (.string c)] 0 none] [] (.sc (.bool (check_anyOf_1 on c))) [] := by
  generalize H : check_anyOf_1 on c = r
  refine .of_AX check_anyOf_1_F Try.func49 fun c0 hc0 => ?_
  rw [check_anyOf_1] at H
  refine .sg 3 [0,1] (.rg (.sg 2 [4,5] (.cp [6] (check_Known_calls on c) (.sg 1 [3] (.dn ?_)))))
  subst H
  exact .ret Try.func49 hc0

/-! ### check.anyOf: function 37 -/
noncomputable def check_anyOf_F : Go.Sh.Fn := ⟨37, bodyOf Try.f37, 6⟩
def check_anyOf (name : ByteArray) : Bool :=
  (slices_ContainsFunc__string check_Events (fun y0 => check_anyOf_1 y0 name))
theorem check_anyOf_calls (name : ByteArray) : ACalls Try.prog tab.S 37 [.sc (.string name)] [] (.sc (.bool (check_anyOf name))) [] := by
  generalize H : check_anyOf name = r
  refine .of_AX check_anyOf_F Try.func37 fun c0 hc0 => ?_
  rw [check_anyOf] at H
  refine .sg 3 [1] (.rg (.cp [1,3] (check_Events_calls) (.sg 1 [3,4] (.cl_ [5] (caps := []) (slices_ContainsFunc__string_calls check_Events 49 [.ep [.sc (.string name)] 0 none] (fun y0 => check_anyOf_1 y0 name) rfl rfl (fun y0 => check_anyOf_1_calls y0 name) true) (.same rfl (.fn (caps := [.ptr 0 0 none]) (by kernel_rfl) .nil)) (by kernel_rfl) rfl rfl (.sg 1 [2] (.dn ?_))))))
  subst H
  exact .ret Try.func37 hc0

/-! ### slices.Index: function 50 -/
noncomputable def slices_Index__string_F : Go.Sh.Fn := ⟨50, bodyOf Try.f50, 19⟩
def slices_Index__string_l0s (v : ByteArray) : List ByteArray → Nat → Sum (Unit) (Int)
  | [], t8 =>
    (.inl ())
  | x :: rest, t8 =>
    (bif (v == x) then
      (.inr ((t8 : Nat) : Int))
    else
      slices_Index__string_l0s v rest (t8 + 1) )
theorem slices_Index__string_l0_walk (s : List ByteArray) (v : ByteArray) (f_s : Bool) (r : Int) (c0 : Ctx) (hc0 : c0.m.length = 0) (res : Sum (Unit) (Int)) (J : ∀ w : Unit, res = .inl w → AX Try.prog tab slices_Index__string_F c0 (Rp tab.S c0 (.sc (.int .i64 r)) []) (some ⟨[.code [1, 1]], [], []⟩)) (Jr : ∀ w, res = .inr w → w = r) :
    ∀ (rest : List ByteArray) (t8 : Nat) (z : Int) (hI : z = ((t8 : Nat) : Int)) (hd : s.drop t8 = rest) (H : slices_Index__string_l0s v rest t8 = res), AX Try.prog tab slices_Index__string_F c0 (Rp tab.S c0 (.sc (.int .i64 r)) []) (some ⟨[.code [1, 0, 1, 0, 0], .loop [1, 0, 1, 0], .blk 0, .code [1, 1]], [(0, .sl 9 (List.map strA s) f_s), (1, .sc (.string v)), (7, .sc (.int .i64 (((List.map strA s).length : Nat) : Int))), (8, .sc (.int .i64 z))], []⟩) := by
  intro rest
  induction rest with
  | nil =>
    intro t8 z hI hd  H
    subst hI
    rw [slices_Index__string_l0s] at H
    refine .facts 0 fun hf => ?_
    have hlen : s.length ≤ 9223372036854775807 := by have hq := len_ok hf.2.1; rw [List.length_map] at hq; exact hq
    have hge : s.length ≤ t8 := List.drop_eq_nil_iff.1 hd
    have hc : (decide (((t8 : Nat) : Int) < (((List.map strA s).length : Nat) : Int))) = false := by rw [List.length_map]; exact decide_eq_false (by omega)
    exact .sg 3 [0,1,7,8,9] (.cdF hc (.sg 1 [] (.kp [] (.to (J () H.symm)))))
  | cons x rest ih =>
    intro t8 z hI hd  H
    subst hI
    rw [slices_Index__string_l0s] at H
    refine .facts 0 fun hf => ?_
    have hlen : s.length ≤ 9223372036854775807 := by have hq := len_ok hf.2.1; rw [List.length_map] at hq; exact hq
    obtain ⟨hlt, hv_t8, hd2⟩ := drop_cons hd
    have hc : (decide (((t8 : Nat) : Int) < (((List.map strA s).length : Nat) : Int))) = true := by rw [List.length_map]; exact decide_eq_true (by omega)
    have hw : IntKind.i64.wrap (((t8 : Nat) : Int) + 1) = ((t8 + 1 : Nat) : Int) := wrapI_succ (by omega)
    refine .sg 3 [0,1,7,8,9] (.cdT hc (.sg 6 [0,1,5,7,8] (.rg (.sg 3 [0,1,5,7,8,11,12,13] (.xi [0,1,5,7,8,11,14] strA hv_t8 (.sg 2 [0,1,5,7,8,16] (.dn (.cd (v == x) H (fun hb H => ?_) (fun hb H => ?_)))))))))
    ·
      refine .sg 2 [4] ?_
      subst H
      obtain rfl := Jr _ rfl
      exact .ret Try.func50 hc0
    ·
      exact .sg 3 [0,1,7,8] (.kp [0,1,7,8] (.into (.cl (ih (t8 + 1) _ hw hd2 H))))

def slices_Index__string (s : List ByteArray) (v : ByteArray) : Int :=
  sumG (fun q => q) (slices_Index__string_l0s v s 0) fun v1 =>
  (-1)
theorem slices_Index__string_calls (s : List ByteArray) (v : ByteArray) (f_s : Bool) : ACalls Try.prog tab.S 50 [.sl 9 (List.map strA s) f_s, .sc (.string v)] [] (.sc (.int .i64 (slices_Index__string s v))) [] := by
  generalize H : slices_Index__string s v = r
  refine .of_AX slices_Index__string_F Try.func50 fun c0 hc0 => ?_
  rw [slices_Index__string] at H
  refine .sg 6 [0,1,7,8] ?_
  rcases sumG_eq H with ⟨v1, hv, H⟩ | ⟨r1, hv, hr1⟩
  case inr =>
    refine .into ?_
    replace hr1 : r1 = r := hr1
    subst hr1
    exact .to (slices_Index__string_l0_walk s v f_s _ c0 hc0 (.inr _) (fun _ e => by cases e) (fun _ e => (Sum.inr.inj e).symm) s 0 _ rfl rfl hv)
  refine .into (.to (slices_Index__string_l0_walk s v f_s r c0 hc0 (.inl v1) (fun w e => ?_) (fun _ e => by cases e) s 0 _ rfl rfl hv))
  have e := Sum.inl.inj e
  subst e
  refine .sg 2 [4] ?_
  subst H
  exact .ret Try.func50 hc0

/-! ### slices.Contains: function 39 -/
noncomputable def slices_Contains__string_F : Go.Sh.Fn := ⟨39, bodyOf Try.f39, 9⟩
def slices_Contains__string (s : List ByteArray) (v : ByteArray) : Bool :=
  (decide ((slices_Index__string s v) ≥ 0))
theorem slices_Contains__string_calls (s : List ByteArray) (v : ByteArray) (f_s : Bool) : ACalls Try.prog tab.S 39 [.sl 9 (List.map strA s) f_s, .sc (.string v)] [] (.sc (.bool (slices_Contains__string s v))) [] := by
  generalize H : slices_Contains__string s v = r
  refine .of_AX slices_Contains__string_F Try.func39 fun c0 hc0 => ?_
  rw [slices_Contains__string] at H
  refine .sg 3 [0,1] (.rg (.sg 2 [5,6] (.cp [7] (slices_Index__string_calls s v f_s) (.sg 2 [4] (.dn ?_)))))
  subst H
  exact .ret Try.func39 hc0

/-! ### slices.IndexFunc: function 60 -/
noncomputable def slices_IndexFunc__api_Node_F : Go.Sh.Fn := ⟨60, bodyOf Try.f60, 19⟩
def slices_IndexFunc__api_Node_l0s (f : Node → Bool) : List Node → Nat → Sum (Unit) (Int)
  | [], t8 =>
    (.inl ())
  | x :: rest, t8 =>
    (bif (f x) then
      (.inr ((t8 : Nat) : Int))
    else
      slices_IndexFunc__api_Node_l0s f rest (t8 + 1) )
theorem slices_IndexFunc__api_Node_l0_walk (s : List Node) (F_f : FuncId) (C_f : List AV) (f : Node → Bool) (P_f : plainL C_f = true) (O_f : C_f.all oneA = true) (H_f : ∀ (y0 : Node), ACalls Try.prog tab.S F_f ([Node.ag y0] ++ C_f) [] (.sc (.bool (f y0))) []) (f_s : Bool) (r : Int) (c0 : Ctx) (hc0 : c0.m.length = 0) (res : Sum (Unit) (Int)) (J : ∀ w : Unit, res = .inl w → AX Try.prog tab slices_IndexFunc__api_Node_F c0 (Rp tab.S c0 (.sc (.int .i64 r)) []) (some ⟨[.code [1, 1]], [], []⟩)) (Jr : ∀ w, res = .inr w → w = r) :
    ∀ (rest : List Node) (t8 : Nat) (z : Int) (hI : z = ((t8 : Nat) : Int)) (hd : s.drop t8 = rest) (H : slices_IndexFunc__api_Node_l0s f rest t8 = res), AX Try.prog tab slices_IndexFunc__api_Node_F c0 (Rp tab.S c0 (.sc (.int .i64 r)) []) (some ⟨[.code [1, 0, 1, 0, 0], .loop [1, 0, 1, 0], .blk 0, .code [1, 1]], [(0, .sl 29 (List.map Node.av s) f_s), (1, .fn F_f C_f), (7, .sc (.int .i64 (((List.map Node.av s).length : Nat) : Int))), (8, .sc (.int .i64 z))], []⟩) := by
  intro rest
  induction rest with
  | nil =>
    intro t8 z hI hd  H
    subst hI
    rw [slices_IndexFunc__api_Node_l0s] at H
    refine .facts 0 fun hf => ?_
    have hlen : s.length ≤ 9223372036854775807 := by have hq := len_ok hf.2.1; rw [List.length_map] at hq; exact hq
    have hge : s.length ≤ t8 := List.drop_eq_nil_iff.1 hd
    have hc : (decide (((t8 : Nat) : Int) < (((List.map Node.av s).length : Nat) : Int))) = false := by rw [List.length_map]; exact decide_eq_false (by omega)
    exact .sg 3 [0,1,7,8,9] (.cdF hc (.sg 1 [] (.kp [] (.to (J () H.symm)))))
  | cons x rest ih =>
    intro t8 z hI hd  H
    subst hI
    rw [slices_IndexFunc__api_Node_l0s] at H
    refine .facts 0 fun hf => ?_
    have hlen : s.length ≤ 9223372036854775807 := by have hq := len_ok hf.2.1; rw [List.length_map] at hq; exact hq
    obtain ⟨hlt, hv_t8, hd2⟩ := drop_cons hd
    have hc : (decide (((t8 : Nat) : Int) < (((List.map Node.av s).length : Nat) : Int))) = true := by rw [List.length_map]; exact decide_eq_true (by omega)
    have hw : IntKind.i64.wrap (((t8 : Nat) : Int) + 1) = ((t8 + 1 : Nat) : Int) := wrapI_succ (by omega)
    refine .sg 3 [0,1,7,8,9] (.cdT hc (.sg 6 [0,1,5,7,8] (.rg (.sg 3 [0,1,5,7,8,11,12,13] (.xg [0,1,5,7,8,11,14] Node.av Node.ag Node.av_eq hv_t8 (.sg 1 [0,1,5,7,8,11,15] (.cf [0,1,5,7,8,16] (H_f x) P_f O_f (.dn (.cd (f x) H (fun hb H => ?_) (fun hb H => ?_))))))))))
    ·
      refine .sg 2 [4] ?_
      subst H
      obtain rfl := Jr _ rfl
      exact .ret Try.func60 hc0
    ·
      exact .sg 3 [0,1,7,8] (.kp [0,1,7,8] (.into (.cl (ih (t8 + 1) _ hw hd2 H))))

def slices_IndexFunc__api_Node (s : List Node) (f : Node → Bool) : Int :=
  sumG (fun q => q) (slices_IndexFunc__api_Node_l0s f s 0) fun v =>
  (-1)
theorem slices_IndexFunc__api_Node_calls (s : List Node) (F_f : FuncId) (C_f : List AV) (f : Node → Bool) (P_f : plainL C_f = true) (O_f : C_f.all oneA = true) (H_f : ∀ (y0 : Node), ACalls Try.prog tab.S F_f ([Node.ag y0] ++ C_f) [] (.sc (.bool (f y0))) []) (f_s : Bool) : ACalls Try.prog tab.S 60 [.sl 29 (List.map Node.av s) f_s, .fn F_f C_f] [] (.sc (.int .i64 (slices_IndexFunc__api_Node s f))) [] := by
  generalize H : slices_IndexFunc__api_Node s f = r
  refine .of_AX slices_IndexFunc__api_Node_F Try.func60 fun c0 hc0 => ?_
  rw [slices_IndexFunc__api_Node] at H
  refine .sg 6 [0,1,7,8] ?_
  rcases sumG_eq H with ⟨v, hv, H⟩ | ⟨r1, hv, hr1⟩
  case inr =>
    refine .into ?_
    replace hr1 : r1 = r := hr1
    subst hr1
    exact .to (slices_IndexFunc__api_Node_l0_walk s F_f C_f f P_f O_f H_f f_s _ c0 hc0 (.inr _) (fun _ e => by cases e) (fun _ e => (Sum.inr.inj e).symm) s 0 _ rfl rfl hv)
  refine .into (.to (slices_IndexFunc__api_Node_l0_walk s F_f C_f f P_f O_f H_f f_s r c0 hc0 (.inl v) (fun w e => ?_) (fun _ e => by cases e) s 0 _ rfl rfl hv))
  have e := Sum.inl.inj e
  subst e
  refine .sg 2 [4] ?_
  subst H
  exact .ret Try.func60 hc0

theorem slices_IndexFunc__api_Node_l0s_eq (f : Node → Bool) : ∀ (l : List Node) (i : Nat), slices_IndexFunc__api_Node_l0s f l i = match l.findIdx? f with | some k => .inr ((i + k : Nat) : Int) | none => .inl ()
  | [], i => rfl
  | x :: l, i => by
      rw [slices_IndexFunc__api_Node_l0s, List.findIdx?_cons, slices_IndexFunc__api_Node_l0s_eq f l (i + 1)]
      cases f x
      · simp only [cond_false, Bool.false_eq_true, if_false]
        cases l.findIdx? f with
        | none => rfl
        | some k => simp only [Option.map_some]; rw [show i + 1 + k = i + (k + 1) by omega]
      · rfl
theorem slices_IndexFunc__api_Node_idx (s : List Node) (f : Node → Bool) : slices_IndexFunc__api_Node s f = idxF f s := by
  rw [slices_IndexFunc__api_Node, slices_IndexFunc__api_Node_l0s_eq]
  unfold idxF sumG
  cases s.findIdx? f with
  | none => rfl
  | some k => simp only [Nat.zero_add]

/-! ### slices.ContainsFunc: function 55 -/
noncomputable def slices_ContainsFunc__api_Node_F : Go.Sh.Fn := ⟨55, bodyOf Try.f55, 9⟩
def slices_ContainsFunc__api_Node (s : List Node) (f : Node → Bool) : Bool :=
  (decide ((slices_IndexFunc__api_Node s f) ≥ 0))
theorem slices_ContainsFunc__api_Node_calls (s : List Node) (F_f : FuncId) (C_f : List AV) (f : Node → Bool) (P_f : plainL C_f = true) (O_f : C_f.all oneA = true) (H_f : ∀ (y0 : Node), ACalls Try.prog tab.S F_f ([Node.ag y0] ++ C_f) [] (.sc (.bool (f y0))) []) (f_s : Bool) : ACalls Try.prog tab.S 55 [.sl 29 (List.map Node.av s) f_s, .fn F_f C_f] [] (.sc (.bool (slices_ContainsFunc__api_Node s f))) [] := by
  generalize H : slices_ContainsFunc__api_Node s f = r
  refine .of_AX slices_ContainsFunc__api_Node_F Try.func55 fun c0 hc0 => ?_
  rw [slices_ContainsFunc__api_Node] at H
  refine .sg 3 [0,1] (.rg (.sg 2 [5,6] (.cl_ [7] (caps := []) (slices_IndexFunc__api_Node_calls s F_f C_f f P_f O_f H_f f_s) (.same rfl (.fn (caps := C_f) (lendC_plain C_f P_f) .nil)) (by kernel_rfl) rfl rfl (.sg 2 [4] (.dn ?_)))))
  subst H
  exact .ret Try.func55 hc0

theorem slices_ContainsFunc__api_Node_any (s : List Node) (f : Node → Bool) : slices_ContainsFunc__api_Node s f = s.any f := by
  rw [slices_ContainsFunc__api_Node, slices_IndexFunc__api_Node_idx, idxF_any]

/-! ### (*podesta/check.checker).fail: function 38 -/
noncomputable def check_checker_fail_F : Go.Sh.Fn := ⟨38, bodyOf Try.f38, 19⟩
def check_checker_fail (c : Checker) (e1 : Int) (n : Node) : Checker :=
  (bif (c.f.E == 0) then
    ({ c with f := ({ E := e1, At := n.At } : Fault) } : Checker)
  else
    c)
theorem check_checker_fail_walk (c : Checker) (e1 : Int) (n : Node) (r : Checker) (H : check_checker_fail c e1 n = r) : ACalls Try.prog tab.S 38 [.ptr 0 0 none, .sc (.int .i64 e1), Node.ag n] [.box 53 [.ref mapK 1, .sc (.string c.on), .sc (.int .i64 c.f.E), .sc (.int .i64 c.f.At)], .vals .mapD (mapAV strA (intA .i64) c.vars)] (.tup []) [.box 53 [.ref mapK 1, .sc (.string r.on), .sc (.int .i64 r.f.E), .sc (.int .i64 r.f.At)], .vals .mapD (mapAV strA (intA .i64) r.vars)] := by
  refine .of_AX check_checker_fail_F Try.func38 fun c0 hc0 => ?_
  rw [check_checker_fail] at H
  refine .sg 4 [0,1,5,11] (.cd (c.f.E == 0) H (fun hb H => ?_) (fun hb H => ?_))
  ·
    refine .sg 1 [] ?_
    subst H
    exact .ret Try.func38 hc0 [0,1]
  ·
    refine .sg 1 [] ?_
    subst H
    exact .ret Try.func38 hc0 [0,1]

/-! ### (*podesta/check.checker).heads: function 21 -/
noncomputable def check_checker_heads_F : Go.Sh.Fn := ⟨21, bodyOf Try.f21, 80⟩
def check_checker_heads_l0s : List Node → ByteArray → Int → Int → List (ByteArray × Int) → List (ByteArray × Int) → ByteArray × Int × Int × (List (ByteArray × Int)) × (List (ByteArray × Int))
  | [], c_1, c_2_0, c_2_1, o1, o3 =>
    (c_1, c_2_0, c_2_1, o1, o3)
  | x :: rest, c_1, c_2_0, c_2_1, o1, o3 =>
    (bif ((x.Kind == 2) && ((decide ((getM x.Text 0 o1) > 0)) || (check_anyOf x.Text))) then
      letT (check_checker_fail ({ vars := o1, on := c_1, f := ({ E := c_2_0, At := c_2_1 } : Fault) } : Checker) 14 x) fun v =>
      check_checker_heads_l0s rest v.on v.f.E v.f.At v.vars o3
    else
      (bif (x.Kind == 2) then
        (bif (decide ((((putM x.Text (IntKind.i64.wrap ((getM x.Text 0 o1) + 1)) o1).length : Nat) : Int) > 64)) then
          letT (check_checker_fail ({ vars := (putM x.Text (IntKind.i64.wrap ((getM x.Text 0 o1) + 1)) o1), on := c_1, f := ({ E := c_2_0, At := c_2_1 } : Fault) } : Checker) 13 x) fun v1 =>
          check_checker_heads_l0s rest v1.on v1.f.E v1.f.At v1.vars o3
        else
          check_checker_heads_l0s rest c_1 c_2_0 c_2_1 (putM x.Text (IntKind.i64.wrap ((getM x.Text 0 o1) + 1)) o1) o3)
      else
        (bif ((!(slices_Contains__string check_Events x.Text)) || (decide ((getM x.Text 0 o3) > 0))) then
          letT (check_checker_fail ({ vars := o1, on := c_1, f := ({ E := c_2_0, At := c_2_1 } : Fault) } : Checker) 14 x) fun v2 =>
          check_checker_heads_l0s rest v2.on v2.f.E v2.f.At v2.vars o3
        else
          check_checker_heads_l0s rest c_1 c_2_0 c_2_1 o1 (putM x.Text (IntKind.i64.wrap ((getM x.Text 0 o3) + 1)) o3))))
theorem check_checker_heads_l0_walk (c : Checker) (n : Node) (r : Checker) (c0 : Ctx) (hc0 : c0.m.length = 2) (res : ByteArray × Int × Int × (List (ByteArray × Int)) × (List (ByteArray × Int))) (J : AX Try.prog tab check_checker_heads_F c0 (Rp tab.S c0 (.tup []) [.box 53 [.ref mapK 1, .sc (.string r.on), .sc (.int .i64 r.f.E), .sc (.int .i64 r.f.At)], .vals .mapD (mapAV strA (intA .i64) r.vars)]) (some ⟨[], [], [.box 53 [.ref mapK 1, .sc (.string res.1), .sc (.int .i64 res.2.1), .sc (.int .i64 res.2.2.1)], .vals .mapD (mapAV strA (intA .i64) res.2.2.2.1), .box 29 (Node.ch n), .vals .mapD (mapAV strA (intA .i64) res.2.2.2.2)]⟩)) :
    ∀ (rest : List Node) (t11 : Nat) (z : Int) (hI : z = ((t11 : Nat) : Int)) (hd : n.Kids.drop t11 = rest) (c_1 : ByteArray) (c_2_0 : Int) (c_2_1 : Int) (o1 : List (ByteArray × Int)) (o3 : List (ByteArray × Int)) (H : check_checker_heads_l0s rest c_1 c_2_0 c_2_1 o1 o3 = res), AX Try.prog tab check_checker_heads_F c0 (Rp tab.S c0 (.tup []) [.box 53 [.ref mapK 1, .sc (.string r.on), .sc (.int .i64 r.f.E), .sc (.int .i64 r.f.At)], .vals .mapD (mapAV strA (intA .i64) r.vars)]) (some ⟨[.code [1, 1, 1, 0, 0], .loop [1, 1, 1, 0], .blk 0], [(0, .ptr 0 0 none), (4, .ref mapK 3), (9, .sl 29 (List.map Node.av n.Kids) false), (10, .sc (.int .i64 (((List.map Node.av n.Kids).length : Nat) : Int))), (11, .sc (.int .i64 z))], [.box 53 [.ref mapK 1, .sc (.string c_1), .sc (.int .i64 c_2_0), .sc (.int .i64 c_2_1)], .vals .mapD (mapAV strA (intA .i64) o1), .box 29 (Node.ch n), .vals .mapD (mapAV strA (intA .i64) o3)]⟩) := by
  intro rest
  induction rest with
  | nil =>
    intro t11 z hI hd c_1 c_2_0 c_2_1 o1 o3 H
    subst hI
    rw [check_checker_heads_l0s] at H
    refine .facts 9 fun hf => ?_
    have hlen : n.Kids.length ≤ 9223372036854775807 := by have hq := len_ok hf.2.1; rw [List.length_map] at hq; exact hq
    have hge : n.Kids.length ≤ t11 := List.drop_eq_nil_iff.1 hd
    have hc : (decide (((t11 : Nat) : Int) < (((List.map Node.av n.Kids).length : Nat) : Int))) = false := by rw [List.length_map]; exact decide_eq_false (by omega)
    refine .sg 3 [0,4,9,10,11,12] (.cdF hc (.sg 1 [] (.kp [] ?_)))
    subst H
    exact .to J
  | cons x rest ih =>
    intro t11 z hI hd c_1 c_2_0 c_2_1 o1 o3 H
    subst hI
    rw [check_checker_heads_l0s] at H
    refine .facts 9 fun hf => ?_
    have hlen : n.Kids.length ≤ 9223372036854775807 := by have hq := len_ok hf.2.1; rw [List.length_map] at hq; exact hq
    obtain ⟨hlt, hv_t11, hd2⟩ := drop_cons hd
    have hc : (decide (((t11 : Nat) : Int) < (((List.map Node.av n.Kids).length : Nat) : Int))) = true := by rw [List.length_map]; exact decide_eq_true (by omega)
    have hw : IntKind.i64.wrap (((t11 : Nat) : Int) + 1) = ((t11 + 1 : Nat) : Int) := wrapI_succ (by omega)
    refine .sg 3 [0,4,9,10,11,12] (.cdT hc (.sg 4 [0,4,9,10,11] (.rg (.xg [0,4,9,10,11,13] Node.av Node.ag Node.av_eq hv_t11 (.sg 3 [0,4,6,9,10,11] (.dn (.sg 2 [0,4,6,9,10,11] (.rg (.sg 4 [0,4,6,9,10,11,24] (.mm 24 (x.Kind == 2) 14 [.pure, .pure, .pure, .read, .pure, .pure, .pure, .read, .read, .pure, .read, .pure, .pure, .pure] [0, 4, 6, 9, 10, 11, 38] 38 (fun z => .sc (.bool (z && ((decide ((getM x.Text 0 o1) > 0)) || (check_anyOf x.Text))))) ?J14 (fun hb J => ?ht14) (fun hb J => ?hf14)))))))))))
    case ht14 =>
      refine .sg 6 [0,4,6,9,10,11,24,28,30] (.ml [0,4,6,9,10,11,24,31] (intA .i64) (kl_str (kt := 9) (by kernel_rfl)) (fun _ => rfl) o1 x.Text 0 false (.sg 2 [0,4,6,9,10,11,24,33] (.mm 33 (decide ((getM x.Text 0 o1) > 0)) 4 [.pure, .pure, .read, .pure] [0, 4, 6, 9, 10, 11, 24, 37] 37 (fun z => .sc (.bool (z || (check_anyOf x.Text)))) ?J15 (fun hb J => ?ht15) (fun hb J => ?hf15))))
      case ht15 =>
        exact .sg 4 [0,4,6,9,10,11,24,37] (.cl J)
      case hf15 =>
        exact .sg 2 [0,4,6,9,10,11,24,33,35] (.cp [0,4,6,9,10,11,24,33,36] (check_anyOf_calls x.Text) (.sg 1 [0,4,6,9,10,11,24,37] (.cl J)))
      exact .sg 1 [0,4,6,9,10,11,38] (.cl J)
    case hf14 =>
      exact .sg 14 [0,4,6,9,10,11,38] (.cl J)
    refine .sg 1 [0,4,6,9,10,11,20] (.dn (.cd ((x.Kind == 2) && ((decide ((getM x.Text 0 o1) > 0)) || (check_anyOf x.Text))) H (fun hb H => ?_) (fun hb H => ?_)))
    ·
      exact .rg (.sg 2 [0,4,9,10,11,39,40] (letH H fun v hv H => (.ch [0,4,9,10,11] [0,1] (check_checker_fail_walk ({ vars := o1, on := c_1, f := ({ E := c_2_0, At := c_2_1 } : Fault) } : Checker) 14 x v hv) (.dn (.sg 3 [0,4,9,10,11] (.tl hc0 [0,1,2,3] [0,4,9,10,11] (.into (.cl (ih (t11 + 1) _ hw hd2 v.on v.f.E v.f.At v.vars o3 H)))))))))
    ·
      refine .sg 2 [0,4,6,9,10,11,42] (.cd (x.Kind == 2) H (fun hb H => ?_) (fun hb H => ?_))
      ·
        refine .sg 1 [0,4,6,9,10,11] (.rg (.sg 6 [0,4,6,9,10,11,49,51] (.ml [0,4,6,9,10,11,49,51,52] (intA .i64) (kl_str (kt := 9) (by kernel_rfl)) (fun _ => rfl) o1 x.Text 0 false (.sg 1 [0,4,6,9,10,11,49,51,53] (.mu [0,4,6,9,10,11] (intA .i64) (kl_str (kt := 9) (by kernel_rfl)) o1 x.Text (IntKind.i64.wrap ((getM x.Text 0 o1) + 1)) (.dn (.sg 1 [0,4,6,9,10,11] (.rg (.sg 4 [0,4,6,9,10,11,57] (.ln [0,4,6,9,10,11,58] strA (intA .i64) (putM x.Text (IntKind.i64.wrap ((getM x.Text 0 o1) + 1)) o1) (.sg 1 [0,4,6,9,10,11,59] (.dn (.cd (decide ((((putM x.Text (IntKind.i64.wrap ((getM x.Text 0 o1) + 1)) o1).length : Nat) : Int) > 64)) H (fun hb H => ?_) (fun hb H => ?_))))))))))))))
        ·
          exact .rg (.sg 2 [0,4,9,10,11,60,61] (letH H fun v1 hv H => (.ch [0,4,9,10,11] [0,1] (check_checker_fail_walk ({ vars := (putM x.Text (IntKind.i64.wrap ((getM x.Text 0 o1) + 1)) o1), on := c_1, f := ({ E := c_2_0, At := c_2_1 } : Fault) } : Checker) 13 x v1 hv) (.dn (.sg 3 [0,4,9,10,11] (.tl hc0 [0,1,2,3] [0,4,9,10,11] (.into (.cl (ih (t11 + 1) _ hw hd2 v1.on v1.f.E v1.f.At v1.vars o3 H)))))))))
        ·
          exact .sg 4 [0,4,9,10,11] (.tl hc0 [0,1,2,3] [0,4,9,10,11] (.into (.cl (ih (t11 + 1) _ hw hd2 c_1 c_2_0 c_2_1 (putM x.Text (IntKind.i64.wrap ((getM x.Text 0 o1) + 1)) o1) o3 H))))
      ·
        refine .sg 1 [0,4,6,9,10,11] (.rg (.cp [0,4,6,9,10,11,64] (check_Events_calls) (.sg 2 [0,4,6,9,10,11,64,66] (.cp [0,4,6,9,10,11,67] (slices_Contains__string_calls check_Events x.Text true) (.sg 2 [0,4,6,9,10,11,69] (.mm 69 (!(slices_Contains__string check_Events x.Text)) 6 [.pure, .pure, .read, .read, .pure, .pure] [0, 4, 6, 9, 10, 11, 75] 75 (fun z => .sc (.bool (z || (decide ((getM x.Text 0 o3) > 0))))) ?J16 (fun hb J => ?ht16) (fun hb J => ?hf16)))))))
        case ht16 =>
          exact .sg 6 [0,4,6,9,10,11,75] (.cl J)
        case hf16 =>
          exact .sg 3 [0,4,6,9,10,11,69,70,72] (.ml [0,4,6,9,10,11,69,73] (intA .i64) (kl_str (kt := 9) (by kernel_rfl)) (fun _ => rfl) o3 x.Text 0 false (.sg 2 [0,4,6,9,10,11,75] (.cl J)))
        refine .sg 1 [0,4,6,9,10,11,63] (.dn (.cd ((!(slices_Contains__string check_Events x.Text)) || (decide ((getM x.Text 0 o3) > 0))) H (fun hb H => ?_) (fun hb H => ?_)))
        ·
          exact .rg (.sg 2 [0,4,9,10,11,76,77] (letH H fun v2 hv H => (.ch [0,4,9,10,11] [0,1] (check_checker_fail_walk ({ vars := o1, on := c_1, f := ({ E := c_2_0, At := c_2_1 } : Fault) } : Checker) 14 x v2 hv) (.dn (.sg 3 [0,4,9,10,11] (.tl hc0 [0,1,2,3] [0,4,9,10,11] (.into (.cl (ih (t11 + 1) _ hw hd2 v2.on v2.f.E v2.f.At v2.vars o3 H)))))))))
        ·
          exact .rg (.sg 3 [0,4,9,10,11,15,17] (.ml [0,4,9,10,11,15,17,18] (intA .i64) (kl_str (kt := 9) (by kernel_rfl)) (fun _ => rfl) o3 x.Text 0 false (.sg 1 [0,4,9,10,11,15,17,19] (.mu [0,4,9,10,11] (intA .i64) (kl_str (kt := 9) (by kernel_rfl)) o3 x.Text (IntKind.i64.wrap ((getM x.Text 0 o3) + 1)) (.dn (.sg 3 [0,4,9,10,11] (.tl hc0 [0,1,2,3] [0,4,9,10,11] (.into (.cl (ih (t11 + 1) _ hw hd2 c_1 c_2_0 c_2_1 o1 (putM x.Text (IntKind.i64.wrap ((getM x.Text 0 o3) + 1)) o3) H))))))))))

def check_checker_heads (c : Checker) (n : Node) : Checker :=
  letT (check_checker_heads_l0s n.Kids c.on c.f.E c.f.At c.vars ([] : List (ByteArray × Int))) fun v =>
  ({ vars := v.2.2.2.1, on := v.1, f := ({ E := v.2.1, At := v.2.2.1 } : Fault) } : Checker)
theorem check_checker_heads_walk (c : Checker) (n : Node) (r : Checker) (H : check_checker_heads c n = r) : ACalls Try.prog tab.S 21 [.ptr 0 0 none, Node.ag n] [.box 53 [.ref mapK 1, .sc (.string c.on), .sc (.int .i64 c.f.E), .sc (.int .i64 c.f.At)], .vals .mapD (mapAV strA (intA .i64) c.vars)] (.tup []) [.box 53 [.ref mapK 1, .sc (.string r.on), .sc (.int .i64 r.f.E), .sc (.int .i64 r.f.At)], .vals .mapD (mapAV strA (intA .i64) r.vars)] := by
  refine .of_AX check_checker_heads_F Try.func21 fun c0 hc0 => ?_
  rw [check_checker_heads] at H
  refine .sg 3 [0,3] (.rg (.mkm [0,3,7] (.sg 1 [0,3,4] (.dn (.sg 3 [0,4,9,10,11] ?_)))))
  refine letH H fun v hv H => (.into (.to (check_checker_heads_l0_walk c n r c0 hc0 v ?_ n.Kids 0 _ rfl rfl c.on c.f.E c.f.At c.vars ([] : List (ByteArray × Int)) hv)))
  subst H
  exact .ret Try.func21 hc0 [0,1]

/-! ### (*podesta/check.checker).field: function 52 -/
noncomputable def check_checker_field_F : Go.Sh.Fn := ⟨52, bodyOf Try.f52, 32⟩
def check_checker_field (c : Checker) (n : Node) : Checker :=
  (bif (!(head_Field n.Text).2) then
    letT (check_checker_fail c 14 n) fun v =>
    v
  else
    (bif ((n.Kind == 13) && (decide (n.Num > (sizeT ((head_Field n.Text).1))))) then
      letT (check_checker_fail c 13 n) fun v1 =>
      v1
    else
      c))
theorem check_checker_field_walk (c : Checker) (n : Node) (r : Checker) (H : check_checker_field c n = r) : ACalls Try.prog tab.S 52 [.ptr 0 0 none, Node.ag n] [.box 53 [.ref mapK 1, .sc (.string c.on), .sc (.int .i64 c.f.E), .sc (.int .i64 c.f.At)], .vals .mapD (mapAV strA (intA .i64) c.vars)] (.tup []) [.box 53 [.ref mapK 1, .sc (.string r.on), .sc (.int .i64 r.f.E), .sc (.int .i64 r.f.At)], .vals .mapD (mapAV strA (intA .i64) r.vars)] := by
  refine .of_AX check_checker_field_F Try.func52 fun c0 hc0 => ?_
  rw [check_checker_field] at H
  refine .sg 3 [0,3] (.rg (.sg 2 [0,3,8] (.cp [0,3,9] (head_Field_calls n.Text) (.sg 5 [0,3,4,5] (.dn (.sg 3 [0,3,4,12] (.cd (!(head_Field n.Text).2) H (fun hb H => ?_) (fun hb H => ?_))))))))
  ·
    refine .rg (.sg 2 [15,16] (letH H fun v hv H => (.ch [] [0,1] (check_checker_fail_walk c 14 n v hv) (.dn (.sg 1 [] ?_)))))
    subst H
    exact .ret Try.func52 hc0 [0,1]
  ·
    refine .sg 1 [0,3,4] (.rg (.sg 4 [0,3,4,22] (.mm 22 (n.Kind == 13) 6 [.pure, .pure, .pure, .pure, .read, .pure] [0, 3, 28] 28 (fun z => .sc (.bool (z && (decide (n.Num > (sizeT ((head_Field n.Text).1))))))) ?J1 (fun hb J => ?ht1) (fun hb J => ?hf1))))
    case ht1 =>
      exact .sg 3 [0,3,22,24,25] (.cp [0,3,22,24,26] (head_Size_ok ((head_Field n.Text).1)) (.sg 2 [0,3,28] (.cl J)))
    case hf1 =>
      exact .sg 6 [0,3,28] (.cl J)
    refine .sg 1 [0,3,18] (.dn (.cd ((n.Kind == 13) && (decide (n.Num > (sizeT ((head_Field n.Text).1))))) H (fun hb H => ?_) (fun hb H => ?_)))
    ·
      refine .rg (.sg 2 [29,30] (letH H fun v1 hv H => (.ch [] [0,1] (check_checker_fail_walk c 13 n v1 hv) (.dn (.sg 1 [] ?_)))))
      subst H
      exact .ret Try.func52 hc0 [0,1]
    ·
      refine .sg 2 [] ?_
      subst H
      exact .ret Try.func52 hc0 [0,1]

/-! ### (*podesta/check.checker).each: function 22 -/
noncomputable def check_checker_each_F : Go.Sh.Fn := ⟨22, bodyOf Try.f22, 16⟩
def check_checker_each_l0s (g_check_checker_node : Checker → Node → Option (Checker)) : List Node → ByteArray → Int → Int → List (ByteArray × Int) → Option (ByteArray × Int × Int × (List (ByteArray × Int)))
  | [], c_1, c_2_0, c_2_1, o1 =>
    some (c_1, c_2_0, c_2_1, o1)
  | x :: rest, c_1, c_2_0, c_2_1, o1 =>
    (g_check_checker_node ({ vars := o1, on := c_1, f := ({ E := c_2_0, At := c_2_1 } : Fault) } : Checker) x).bind fun v =>
    check_checker_each_l0s g_check_checker_node rest v.on v.f.E v.f.At v.vars
theorem check_checker_each_l0_walk (g_check_checker_each : Checker → (List Node) → Option (Checker)) (H_g_check_checker_each : ∀ (c : Checker) (list : List Node) (f_list : Bool) (r : Checker) (H : g_check_checker_each c list = some r), ACalls Try.prog tab.S 22 [.ptr 0 0 none, .sl 29 (List.map Node.av list) f_list] [.box 53 [.ref mapK 1, .sc (.string c.on), .sc (.int .i64 c.f.E), .sc (.int .i64 c.f.At)], .vals .mapD (mapAV strA (intA .i64) c.vars)] (.tup []) [.box 53 [.ref mapK 1, .sc (.string r.on), .sc (.int .i64 r.f.E), .sc (.int .i64 r.f.At)], .vals .mapD (mapAV strA (intA .i64) r.vars)]) (g_check_checker_node : Checker → Node → Option (Checker)) (H_g_check_checker_node : ∀ (c : Checker) (n : Node) (r : Checker) (H : g_check_checker_node c n = some r), ACalls Try.prog tab.S 40 [.ptr 0 0 none, Node.ag n] [.box 53 [.ref mapK 1, .sc (.string c.on), .sc (.int .i64 c.f.E), .sc (.int .i64 c.f.At)], .vals .mapD (mapAV strA (intA .i64) c.vars)] (.tup []) [.box 53 [.ref mapK 1, .sc (.string r.on), .sc (.int .i64 r.f.E), .sc (.int .i64 r.f.At)], .vals .mapD (mapAV strA (intA .i64) r.vars)]) (g_check_checker_match : Checker → Node → Option (Checker)) (H_g_check_checker_match : ∀ (c : Checker) (n : Node) (r : Checker) (H : g_check_checker_match c n = some r), ACalls Try.prog tab.S 51 [.ptr 0 0 none, Node.ag n] [.box 53 [.ref mapK 1, .sc (.string c.on), .sc (.int .i64 c.f.E), .sc (.int .i64 c.f.At)], .vals .mapD (mapAV strA (intA .i64) c.vars)] (.tup []) [.box 53 [.ref mapK 1, .sc (.string r.on), .sc (.int .i64 r.f.E), .sc (.int .i64 r.f.At)], .vals .mapD (mapAV strA (intA .i64) r.vars)]) (c : Checker) (list : List Node) (f_list : Bool) (r : Checker) (c0 : Ctx) (hc0 : c0.m.length = 2) (res : ByteArray × Int × Int × (List (ByteArray × Int))) (J : AX Try.prog tab check_checker_each_F c0 (Rp tab.S c0 (.tup []) [.box 53 [.ref mapK 1, .sc (.string r.on), .sc (.int .i64 r.f.E), .sc (.int .i64 r.f.At)], .vals .mapD (mapAV strA (intA .i64) r.vars)]) (some ⟨[], [], [.box 53 [.ref mapK 1, .sc (.string res.1), .sc (.int .i64 res.2.1), .sc (.int .i64 res.2.2.1)], .vals .mapD (mapAV strA (intA .i64) res.2.2.2)]⟩)) :
    ∀ (rest : List Node) (t8 : Nat) (z : Int) (hI : z = ((t8 : Nat) : Int)) (hd : list.drop t8 = rest) (c_1 : ByteArray) (c_2_0 : Int) (c_2_1 : Int) (o1 : List (ByteArray × Int)) (H : check_checker_each_l0s g_check_checker_node rest c_1 c_2_0 c_2_1 o1 = some res), AX Try.prog tab check_checker_each_F c0 (Rp tab.S c0 (.tup []) [.box 53 [.ref mapK 1, .sc (.string r.on), .sc (.int .i64 r.f.E), .sc (.int .i64 r.f.At)], .vals .mapD (mapAV strA (intA .i64) r.vars)]) (some ⟨[.code [1, 0, 0], .loop [1, 0], .blk 0], [(0, .ptr 0 0 none), (6, .sl 29 (List.map Node.av list) f_list), (7, .sc (.int .i64 (((List.map Node.av list).length : Nat) : Int))), (8, .sc (.int .i64 z))], [.box 53 [.ref mapK 1, .sc (.string c_1), .sc (.int .i64 c_2_0), .sc (.int .i64 c_2_1)], .vals .mapD (mapAV strA (intA .i64) o1)]⟩) := by
  intro rest
  induction rest with
  | nil =>
    intro t8 z hI hd c_1 c_2_0 c_2_1 o1 H
    subst hI
    rw [check_checker_each_l0s] at H
    refine .facts 6 fun hf => ?_
    have hlen : list.length ≤ 9223372036854775807 := by have hq := len_ok hf.2.1; rw [List.length_map] at hq; exact hq
    have hge : list.length ≤ t8 := List.drop_eq_nil_iff.1 hd
    have hc : (decide (((t8 : Nat) : Int) < (((List.map Node.av list).length : Nat) : Int))) = false := by rw [List.length_map]; exact decide_eq_false (by omega)
    refine .sg 3 [0,6,7,8,9] (.cdF hc (.sg 1 [] (.kp [] ?_)))
    obtain rfl := Option.some.inj H
    exact .to J
  | cons x rest ih =>
    intro t8 z hI hd c_1 c_2_0 c_2_1 o1 H
    subst hI
    rw [check_checker_each_l0s] at H
    refine .facts 6 fun hf => ?_
    have hlen : list.length ≤ 9223372036854775807 := by have hq := len_ok hf.2.1; rw [List.length_map] at hq; exact hq
    obtain ⟨hlt, hv_t8, hd2⟩ := drop_cons hd
    have hc : (decide (((t8 : Nat) : Int) < (((List.map Node.av list).length : Nat) : Int))) = true := by rw [List.length_map]; exact decide_eq_true (by omega)
    have hw : IntKind.i64.wrap (((t8 : Nat) : Int) + 1) = ((t8 + 1 : Nat) : Int) := wrapI_succ (by omega)
    exact .sg 3 [0,6,7,8,9] (.cdT hc (.sg 4 [0,6,7,8] (.rg (.xg [0,6,7,8,10] Node.av Node.ag Node.av_eq hv_t8 (.sg 3 [0,5,6,7,8] (.dn (.rg (.sg 2 [0,6,7,8,12,13] (bndO H fun v hv H => (.ch [0,6,7,8] [0,1] (H_g_check_checker_node ({ vars := o1, on := c_1, f := ({ E := c_2_0, At := c_2_1 } : Fault) } : Checker) x v hv) (.dn (.sg 2 [0,6,7,8] (.tl hc0 [0,1] [0,6,7,8] (.into (.cl (ih (t8 + 1) _ hw hd2 v.on v.f.E v.f.At v.vars H))))))))))))))))

def check_checker_each_raw (g_check_checker_each : Checker → (List Node) → Option (Checker)) (g_check_checker_node : Checker → Node → Option (Checker)) (g_check_checker_match : Checker → Node → Option (Checker)) (c : Checker) (list : List Node) : Option (Checker) :=
  (check_checker_each_l0s g_check_checker_node list c.on c.f.E c.f.At c.vars).bind fun v =>
  some ({ vars := v.2.2.2, on := v.1, f := ({ E := v.2.1, At := v.2.2.1 } : Fault) } : Checker)
theorem check_checker_each_walk (g_check_checker_each : Checker → (List Node) → Option (Checker)) (H_g_check_checker_each : ∀ (c : Checker) (list : List Node) (f_list : Bool) (r : Checker) (H : g_check_checker_each c list = some r), ACalls Try.prog tab.S 22 [.ptr 0 0 none, .sl 29 (List.map Node.av list) f_list] [.box 53 [.ref mapK 1, .sc (.string c.on), .sc (.int .i64 c.f.E), .sc (.int .i64 c.f.At)], .vals .mapD (mapAV strA (intA .i64) c.vars)] (.tup []) [.box 53 [.ref mapK 1, .sc (.string r.on), .sc (.int .i64 r.f.E), .sc (.int .i64 r.f.At)], .vals .mapD (mapAV strA (intA .i64) r.vars)]) (g_check_checker_node : Checker → Node → Option (Checker)) (H_g_check_checker_node : ∀ (c : Checker) (n : Node) (r : Checker) (H : g_check_checker_node c n = some r), ACalls Try.prog tab.S 40 [.ptr 0 0 none, Node.ag n] [.box 53 [.ref mapK 1, .sc (.string c.on), .sc (.int .i64 c.f.E), .sc (.int .i64 c.f.At)], .vals .mapD (mapAV strA (intA .i64) c.vars)] (.tup []) [.box 53 [.ref mapK 1, .sc (.string r.on), .sc (.int .i64 r.f.E), .sc (.int .i64 r.f.At)], .vals .mapD (mapAV strA (intA .i64) r.vars)]) (g_check_checker_match : Checker → Node → Option (Checker)) (H_g_check_checker_match : ∀ (c : Checker) (n : Node) (r : Checker) (H : g_check_checker_match c n = some r), ACalls Try.prog tab.S 51 [.ptr 0 0 none, Node.ag n] [.box 53 [.ref mapK 1, .sc (.string c.on), .sc (.int .i64 c.f.E), .sc (.int .i64 c.f.At)], .vals .mapD (mapAV strA (intA .i64) c.vars)] (.tup []) [.box 53 [.ref mapK 1, .sc (.string r.on), .sc (.int .i64 r.f.E), .sc (.int .i64 r.f.At)], .vals .mapD (mapAV strA (intA .i64) r.vars)]) (c : Checker) (list : List Node) (f_list : Bool) (r : Checker) (H : check_checker_each_raw g_check_checker_each g_check_checker_node g_check_checker_match c list = some r) : ACalls Try.prog tab.S 22 [.ptr 0 0 none, .sl 29 (List.map Node.av list) f_list] [.box 53 [.ref mapK 1, .sc (.string c.on), .sc (.int .i64 c.f.E), .sc (.int .i64 c.f.At)], .vals .mapD (mapAV strA (intA .i64) c.vars)] (.tup []) [.box 53 [.ref mapK 1, .sc (.string r.on), .sc (.int .i64 r.f.E), .sc (.int .i64 r.f.At)], .vals .mapD (mapAV strA (intA .i64) r.vars)] := by
  refine .of_AX check_checker_each_F Try.func22 fun c0 hc0 => ?_
  rw [check_checker_each_raw] at H
  refine .sg 3 [0,6,7,8] ?_
  refine bndO H fun v hv H => (.into (.to (check_checker_each_l0_walk g_check_checker_each H_g_check_checker_each g_check_checker_node H_g_check_checker_node g_check_checker_match H_g_check_checker_match c list f_list r c0 hc0 v ?_ list 0 _ rfl rfl c.on c.f.E c.f.At c.vars hv)))
  obtain rfl := Option.some.inj H
  exact .ret Try.func22 hc0 [0,1]

/-! ### (*podesta/check.checker).node: function 40 -/
noncomputable def check_checker_node_F : Go.Sh.Fn := ⟨40, bodyOf Try.f40, 65⟩
def check_checker_node_raw (g_check_checker_each : Checker → (List Node) → Option (Checker)) (g_check_checker_node : Checker → Node → Option (Checker)) (g_check_checker_match : Checker → Node → Option (Checker)) (c : Checker) (n : Node) : Option (Checker) :=
  (bif (n.Kind == 4) then
    (bif ((getM n.Text 0 c.vars) == 0) then
      letT (check_checker_fail c 14 n) fun v =>
      (g_check_checker_each v n.Kids).bind fun v1 =>
      some v1
    else
      (g_check_checker_each c n.Kids).bind fun v2 =>
      some v2)
  else
    (bif (n.Kind == 19) then
      (bif (((getM n.Text 0 c.vars) == 0) && (!(check_Known c.on n.Text))) then
        letT (check_checker_fail c 14 n) fun v3 =>
        (g_check_checker_each v3 n.Kids).bind fun v4 =>
        some v4
      else
        (g_check_checker_each c n.Kids).bind fun v5 =>
        some v5)
    else
      (bif (n.Kind == 12) then
        (g_check_checker_match c n).bind fun v6 =>
        some v6
      else
        (bif (n.Kind == 16) then
          letT (check_checker_field c n) fun v7 =>
          (g_check_checker_each v7 n.Kids).bind fun v8 =>
          some v8
        else
          (bif (n.Kind == 14) then
            (bif (decide ((((List.map Node.av n.Kids).length : Nat) : Int) > 8)) then
              letT (check_checker_fail c 3 n) fun v9 =>
              (g_check_checker_each v9 n.Kids).bind fun v10 =>
              some v10
            else
              (g_check_checker_each c n.Kids).bind fun v11 =>
              some v11)
          else
            (g_check_checker_each c n.Kids).bind fun v12 =>
            some v12)))))
theorem check_checker_node_walk (g_check_checker_each : Checker → (List Node) → Option (Checker)) (H_g_check_checker_each : ∀ (c : Checker) (list : List Node) (f_list : Bool) (r : Checker) (H : g_check_checker_each c list = some r), ACalls Try.prog tab.S 22 [.ptr 0 0 none, .sl 29 (List.map Node.av list) f_list] [.box 53 [.ref mapK 1, .sc (.string c.on), .sc (.int .i64 c.f.E), .sc (.int .i64 c.f.At)], .vals .mapD (mapAV strA (intA .i64) c.vars)] (.tup []) [.box 53 [.ref mapK 1, .sc (.string r.on), .sc (.int .i64 r.f.E), .sc (.int .i64 r.f.At)], .vals .mapD (mapAV strA (intA .i64) r.vars)]) (g_check_checker_node : Checker → Node → Option (Checker)) (H_g_check_checker_node : ∀ (c : Checker) (n : Node) (r : Checker) (H : g_check_checker_node c n = some r), ACalls Try.prog tab.S 40 [.ptr 0 0 none, Node.ag n] [.box 53 [.ref mapK 1, .sc (.string c.on), .sc (.int .i64 c.f.E), .sc (.int .i64 c.f.At)], .vals .mapD (mapAV strA (intA .i64) c.vars)] (.tup []) [.box 53 [.ref mapK 1, .sc (.string r.on), .sc (.int .i64 r.f.E), .sc (.int .i64 r.f.At)], .vals .mapD (mapAV strA (intA .i64) r.vars)]) (g_check_checker_match : Checker → Node → Option (Checker)) (H_g_check_checker_match : ∀ (c : Checker) (n : Node) (r : Checker) (H : g_check_checker_match c n = some r), ACalls Try.prog tab.S 51 [.ptr 0 0 none, Node.ag n] [.box 53 [.ref mapK 1, .sc (.string c.on), .sc (.int .i64 c.f.E), .sc (.int .i64 c.f.At)], .vals .mapD (mapAV strA (intA .i64) c.vars)] (.tup []) [.box 53 [.ref mapK 1, .sc (.string r.on), .sc (.int .i64 r.f.E), .sc (.int .i64 r.f.At)], .vals .mapD (mapAV strA (intA .i64) r.vars)]) (c : Checker) (n : Node) (r : Checker) (H : check_checker_node_raw g_check_checker_each g_check_checker_node g_check_checker_match c n = some r) : ACalls Try.prog tab.S 40 [.ptr 0 0 none, Node.ag n] [.box 53 [.ref mapK 1, .sc (.string c.on), .sc (.int .i64 c.f.E), .sc (.int .i64 c.f.At)], .vals .mapD (mapAV strA (intA .i64) c.vars)] (.tup []) [.box 53 [.ref mapK 1, .sc (.string r.on), .sc (.int .i64 r.f.E), .sc (.int .i64 r.f.At)], .vals .mapD (mapAV strA (intA .i64) r.vars)] := by
  refine .of_AX check_checker_node_F Try.func40 fun c0 hc0 => ?_
  rw [check_checker_node_raw] at H
  refine .sg 8 [0,3,5,6] (.cd (n.Kind == 4) H (fun hb H => ?_) (fun hb H => ?_))
  ·
    refine .sg 1 [0,3] (.rg (.sg 6 [0,3,11,13] (.ml [0,3,14] (intA .i64) (kl_str (kt := 9) (by kernel_rfl)) (fun _ => rfl) c.vars n.Text 0 false (.sg 1 [0,3,15] (.dn (.cd ((getM n.Text 0 c.vars) == 0) H (fun hb H => ?_) (fun hb H => ?_)))))))
    ·
      refine .rg (.sg 2 [0,3,16,17] (letH H fun v hv H => (.ch [0,3] [0,1] (check_checker_fail_walk c 14 n v hv) (.dn (.sg 1 [0,3] (.rg (.sg 3 [61,63] (bndO H fun v1 hv H => (.ch [] [0,1] (H_g_check_checker_each v n.Kids false v1 hv) (.dn ?_))))))))))
      obtain rfl := Option.some.inj H
      exact .ret Try.func40 hc0 [0,1]
    ·
      refine .sg 2 [0,3] (.rg (.sg 3 [61,63] (bndO H fun v2 hv H => (.ch [] [0,1] (H_g_check_checker_each c n.Kids false v2 hv) (.dn ?_)))))
      obtain rfl := Option.some.inj H
      exact .ret Try.func40 hc0 [0,1]
  ·
    refine .sg 2 [0,3,5,19] (.cd (n.Kind == 19) H (fun hb H => ?_) (fun hb H => ?_))
    ·
      refine .sg 1 [0,3] (.rg (.sg 6 [0,3,24,26] (.ml [0,3,27] (intA .i64) (kl_str (kt := 9) (by kernel_rfl)) (fun _ => rfl) c.vars n.Text 0 false (.sg 2 [0,3,29] (.mm 29 ((getM n.Text 0 c.vars) == 0) 9 [.pure, .pure, .pure, .read, .pure, .read, .pure, .pure, .pure] [0, 3, 38] 38 (fun z => .sc (.bool (z && (!(check_Known c.on n.Text))))) ?J2 (fun hb J => ?ht2) (fun hb J => ?hf2))))))
      case ht2 =>
        exact .sg 6 [0,3,29,33,35] (.cp [0,3,29,36] (check_Known_calls c.on n.Text) (.sg 2 [0,3,38] (.cl J)))
      case hf2 =>
        exact .sg 9 [0,3,38] (.cl J)
      refine .dn (.cd (((getM n.Text 0 c.vars) == 0) && (!(check_Known c.on n.Text))) H (fun hb H => ?_) (fun hb H => ?_))
      ·
        refine .rg (.sg 2 [0,3,39,40] (letH H fun v3 hv H => (.ch [0,3] [0,1] (check_checker_fail_walk c 14 n v3 hv) (.dn (.sg 1 [0,3] (.rg (.sg 3 [61,63] (bndO H fun v4 hv H => (.ch [] [0,1] (H_g_check_checker_each v3 n.Kids false v4 hv) (.dn ?_))))))))))
        obtain rfl := Option.some.inj H
        exact .ret Try.func40 hc0 [0,1]
      ·
        refine .sg 2 [0,3] (.rg (.sg 3 [61,63] (bndO H fun v5 hv H => (.ch [] [0,1] (H_g_check_checker_each c n.Kids false v5 hv) (.dn ?_)))))
        obtain rfl := Option.some.inj H
        exact .ret Try.func40 hc0 [0,1]
    ·
      refine .sg 2 [0,3,5,42] (.cd (n.Kind == 12) H (fun hb H => ?_) (fun hb H => ?_))
      ·
        refine .sg 1 [0,3] (.rg (.sg 2 [44,45] (bndO H fun v6 hv H => (.ch [] [0,1] (H_g_check_checker_match c n v6 hv) (.dn ?_)))))
        obtain rfl := Option.some.inj H
        exact .ret Try.func40 hc0 [0,1]
      ·
        refine .sg 2 [0,3,5,47] (.cd (n.Kind == 16) H (fun hb H => ?_) (fun hb H => ?_))
        ·
          refine .rg (.sg 2 [0,3,49,50] (letH H fun v7 hv H => (.ch [0,3] [0,1] (check_checker_field_walk c n v7 hv) (.dn (.sg 1 [0,3] (.rg (.sg 3 [61,63] (bndO H fun v8 hv H => (.ch [] [0,1] (H_g_check_checker_each v7 n.Kids false v8 hv) (.dn ?_))))))))))
          obtain rfl := Option.some.inj H
          exact .ret Try.func40 hc0 [0,1]
        ·
          refine .sg 2 [0,3,52] (.cd (n.Kind == 14) H (fun hb H => ?_) (fun hb H => ?_))
          ·
            refine .sg 2 [0,3,57] (.cd (decide ((((List.map Node.av n.Kids).length : Nat) : Int) > 8)) H (fun hb H => ?_) (fun hb H => ?_))
            ·
              refine .rg (.sg 2 [0,3,58,59] (letH H fun v9 hv H => (.ch [0,3] [0,1] (check_checker_fail_walk c 3 n v9 hv) (.dn (.sg 1 [0,3] (.rg (.sg 3 [61,63] (bndO H fun v10 hv H => (.ch [] [0,1] (H_g_check_checker_each v9 n.Kids false v10 hv) (.dn ?_))))))))))
              obtain rfl := Option.some.inj H
              exact .ret Try.func40 hc0 [0,1]
            ·
              refine .sg 2 [0,3] (.rg (.sg 3 [61,63] (bndO H fun v11 hv H => (.ch [] [0,1] (H_g_check_checker_each c n.Kids false v11 hv) (.dn ?_)))))
              obtain rfl := Option.some.inj H
              exact .ret Try.func40 hc0 [0,1]
          ·
            refine .sg 2 [0,3] (.rg (.sg 3 [61,63] (bndO H fun v12 hv H => (.ch [] [0,1] (H_g_check_checker_each c n.Kids false v12 hv) (.dn ?_)))))
            obtain rfl := Option.some.inj H
            exact .ret Try.func40 hc0 [0,1]

/-! ### (*podesta/check.checker).match$1: function 56 -/
noncomputable def check_checker_match_1_F : Go.Sh.Fn := ⟨56, bodyOf Try.f56, 9⟩
def check_checker_match_1 (x : Node) (c : Node) : Bool :=
  (x.Text == c.Text)
theorem check_checker_match_1_calls (x : Node) (c : Node) : ACalls Try.prog tab.S 56 [Node.ag x, .ep [.sc (.int .i64 c.Kind), .sc (.string c.Text), .sc (.int .i64 c.Num), .sl 29 (List.map Node.av c.Kids) false, .sc (.int .i64 c.At)] 0 none] [] (.sc (.bool (check_checker_match_1 x c))) [] := by
  generalize H : check_checker_match_1 x c = r
  refine .of_AX check_checker_match_1_F Try.func56 fun c0 hc0 => ?_
  rw [check_checker_match_1] at H
  refine .sg 4 [3] ?_
  subst H
  exact .ret Try.func56 hc0

/-! ### (*podesta/check.checker).match: function 51 -/
noncomputable def check_checker_match_F : Go.Sh.Fn := ⟨51, bodyOf Try.f51, 31⟩
def check_checker_match_l0s (g_check_checker_each : Checker → (List Node) → Option (Checker)) (n : Node) : List Node → Nat → ByteArray → Int → Int → List (ByteArray × Int) → Option (ByteArray × Int × Int × (List (ByteArray × Int)))
  | [], t9, c_1, c_2_0, c_2_1, o1 =>
    some (c_1, c_2_0, c_2_1, o1)
  | x :: rest, t9, c_1, c_2_0, c_2_1, o1 =>
    letT (check_checker_field ({ vars := o1, on := c_1, f := ({ E := c_2_0, At := c_2_1 } : Fault) } : Checker) x) fun v =>
    (sliceO n.Kids none (some ((t9 : Nat) : Int)) none).bind fun x1 =>
    (bif (slices_ContainsFunc__api_Node x1 (fun y0 => check_checker_match_1 y0 x)) then
      letT (check_checker_fail v 5 x) fun v1 =>
      (g_check_checker_each v1 x.Kids).bind fun v2 =>
      check_checker_match_l0s g_check_checker_each n rest (t9 + 1) v2.on v2.f.E v2.f.At v2.vars
    else
      (g_check_checker_each v x.Kids).bind fun v3 =>
      check_checker_match_l0s g_check_checker_each n rest (t9 + 1) v3.on v3.f.E v3.f.At v3.vars)
theorem check_checker_match_l0_walk (g_check_checker_each : Checker → (List Node) → Option (Checker)) (H_g_check_checker_each : ∀ (c : Checker) (list : List Node) (f_list : Bool) (r : Checker) (H : g_check_checker_each c list = some r), ACalls Try.prog tab.S 22 [.ptr 0 0 none, .sl 29 (List.map Node.av list) f_list] [.box 53 [.ref mapK 1, .sc (.string c.on), .sc (.int .i64 c.f.E), .sc (.int .i64 c.f.At)], .vals .mapD (mapAV strA (intA .i64) c.vars)] (.tup []) [.box 53 [.ref mapK 1, .sc (.string r.on), .sc (.int .i64 r.f.E), .sc (.int .i64 r.f.At)], .vals .mapD (mapAV strA (intA .i64) r.vars)]) (g_check_checker_node : Checker → Node → Option (Checker)) (H_g_check_checker_node : ∀ (c : Checker) (n : Node) (r : Checker) (H : g_check_checker_node c n = some r), ACalls Try.prog tab.S 40 [.ptr 0 0 none, Node.ag n] [.box 53 [.ref mapK 1, .sc (.string c.on), .sc (.int .i64 c.f.E), .sc (.int .i64 c.f.At)], .vals .mapD (mapAV strA (intA .i64) c.vars)] (.tup []) [.box 53 [.ref mapK 1, .sc (.string r.on), .sc (.int .i64 r.f.E), .sc (.int .i64 r.f.At)], .vals .mapD (mapAV strA (intA .i64) r.vars)]) (g_check_checker_match : Checker → Node → Option (Checker)) (H_g_check_checker_match : ∀ (c : Checker) (n : Node) (r : Checker) (H : g_check_checker_match c n = some r), ACalls Try.prog tab.S 51 [.ptr 0 0 none, Node.ag n] [.box 53 [.ref mapK 1, .sc (.string c.on), .sc (.int .i64 c.f.E), .sc (.int .i64 c.f.At)], .vals .mapD (mapAV strA (intA .i64) c.vars)] (.tup []) [.box 53 [.ref mapK 1, .sc (.string r.on), .sc (.int .i64 r.f.E), .sc (.int .i64 r.f.At)], .vals .mapD (mapAV strA (intA .i64) r.vars)]) (c : Checker) (n : Node) (r : Checker) (c0 : Ctx) (hc0 : c0.m.length = 2) (res : ByteArray × Int × Int × (List (ByteArray × Int))) (J : AX Try.prog tab check_checker_match_F c0 (Rp tab.S c0 (.tup []) [.box 53 [.ref mapK 1, .sc (.string r.on), .sc (.int .i64 r.f.E), .sc (.int .i64 r.f.At)], .vals .mapD (mapAV strA (intA .i64) r.vars)]) (some ⟨[], [], [.box 53 [.ref mapK 1, .sc (.string res.1), .sc (.int .i64 res.2.1), .sc (.int .i64 res.2.2.1)], .vals .mapD (mapAV strA (intA .i64) res.2.2.2), .box 29 (Node.ch n)]⟩)) :
    ∀ (rest : List Node) (t9 : Nat) (z : Int) (hI : z = ((t9 : Nat) : Int)) (hd : n.Kids.drop t9 = rest) (c_1 : ByteArray) (c_2_0 : Int) (c_2_1 : Int) (o1 : List (ByteArray × Int)) (H : check_checker_match_l0s g_check_checker_each n rest t9 c_1 c_2_0 c_2_1 o1 = some res), AX Try.prog tab check_checker_match_F c0 (Rp tab.S c0 (.tup []) [.box 53 [.ref mapK 1, .sc (.string r.on), .sc (.int .i64 r.f.E), .sc (.int .i64 r.f.At)], .vals .mapD (mapAV strA (intA .i64) r.vars)]) (some ⟨[.code [1, 1, 0, 0], .loop [1, 1, 0], .blk 0], [(0, .ptr 0 0 none), (3, .ptr 2 0 none), (7, .sl 29 (List.map Node.av n.Kids) false), (8, .sc (.int .i64 (((List.map Node.av n.Kids).length : Nat) : Int))), (9, .sc (.int .i64 z))], [.box 53 [.ref mapK 1, .sc (.string c_1), .sc (.int .i64 c_2_0), .sc (.int .i64 c_2_1)], .vals .mapD (mapAV strA (intA .i64) o1), .box 29 (Node.ch n)]⟩) := by
  intro rest
  induction rest with
  | nil =>
    intro t9 z hI hd c_1 c_2_0 c_2_1 o1 H
    subst hI
    rw [check_checker_match_l0s] at H
    refine .facts 7 fun hf => ?_
    have hlen : n.Kids.length ≤ 9223372036854775807 := by have hq := len_ok hf.2.1; rw [List.length_map] at hq; exact hq
    have hge : n.Kids.length ≤ t9 := List.drop_eq_nil_iff.1 hd
    have hc : (decide (((t9 : Nat) : Int) < (((List.map Node.av n.Kids).length : Nat) : Int))) = false := by rw [List.length_map]; exact decide_eq_false (by omega)
    refine .sg 3 [0,3,7,8,9,10] (.cdF hc (.sg 1 [] (.kp [] ?_)))
    obtain rfl := Option.some.inj H
    exact .to J
  | cons x rest ih =>
    intro t9 z hI hd c_1 c_2_0 c_2_1 o1 H
    subst hI
    rw [check_checker_match_l0s] at H
    refine .facts 7 fun hf => ?_
    have hlen : n.Kids.length ≤ 9223372036854775807 := by have hq := len_ok hf.2.1; rw [List.length_map] at hq; exact hq
    obtain ⟨hlt, hv_t9, hd2⟩ := drop_cons hd
    have hc : (decide (((t9 : Nat) : Int) < (((List.map Node.av n.Kids).length : Nat) : Int))) = true := by rw [List.length_map]; exact decide_eq_true (by omega)
    have hw : IntKind.i64.wrap (((t9 : Nat) : Int) + 1) = ((t9 + 1 : Nat) : Int) := wrapI_succ (by omega)
    refine .sg 3 [0,3,7,8,9,10] (.cdT hc (.sg 4 [0,3,7,8,9] (.rg (.sg 1 [0,3,7,8,9,11] (.xg [0,3,7,8,9,11,12] Node.av Node.ag Node.av_eq hv_t9 (.sg 4 [0,3,4,5,7,8,9] (.dn (.sg 1 [0,3,4,5,7,8,9] (.rg (.sg 2 [0,3,4,5,7,8,9,14,15] (letH H fun v hv H => (.ch [0,3,4,5,7,8,9] [0,1] (check_checker_field_walk ({ vars := o1, on := c_1, f := ({ E := c_2_0, At := c_2_1 } : Fault) } : Checker) x v hv) (.dn (.sg 2 [0,3,4,5,7,8,9] (.rg (.sg 3 [0,3,5,7,8,9,18,19] (bndO H fun x1 hv H => (.so [0,3,5,7,8,9,20] Node.av hv (.sg 1 [0,3,5,7,8,9,20,21] (.cl_ [0,3,5,7,8,9,22] (caps := []) (slices_ContainsFunc__api_Node_calls x1 56 [.ep [.sc (.int .i64 x.Kind), .sc (.string x.Text), .sc (.int .i64 x.Num), .sl 29 (List.map Node.av x.Kids) false, .sc (.int .i64 x.At)] 0 none] (fun y0 => check_checker_match_1 y0 x) rfl rfl (fun y0 => check_checker_match_1_calls y0 x) false) (.same rfl (.fn (caps := [.ptr 3 0 none]) (by kernel_rfl) .nil)) (by kernel_rfl) rfl rfl (.dn (.cd (slices_ContainsFunc__api_Node x1 (fun y0 => check_checker_match_1 y0 x)) H (fun hb H => ?_) (fun hb H => ?_)))))))))))))))))))))))
    ·
      exact .rg (.sg 2 [0,3,5,7,8,9,23,24] (letH H fun v1 hv H => (.ch [0,3,5,7,8,9] [0,1] (check_checker_fail_walk v 5 x v1 hv) (.dn (.rg (.sg 3 [0,3,7,8,9,26,28] (bndO H fun v2 hv H => (.ch [0,3,7,8,9] [0,1] (H_g_check_checker_each v1 x.Kids false v2 hv) (.dn (.sg 2 [0,3,7,8,9] (.tl hc0 [0,1,2] [0,3,7,8,9] (.into (.cl (ih (t9 + 1) _ hw hd2 v2.on v2.f.E v2.f.At v2.vars H))))))))))))))
    ·
      exact .sg 1 [0,3,5,7,8,9] (.rg (.sg 3 [0,3,7,8,9,26,28] (bndO H fun v3 hv H => (.ch [0,3,7,8,9] [0,1] (H_g_check_checker_each v x.Kids false v3 hv) (.dn (.sg 2 [0,3,7,8,9] (.tl hc0 [0,1,2] [0,3,7,8,9] (.into (.cl (ih (t9 + 1) _ hw hd2 v3.on v3.f.E v3.f.At v3.vars H))))))))))

def check_checker_match_raw (g_check_checker_each : Checker → (List Node) → Option (Checker)) (g_check_checker_node : Checker → Node → Option (Checker)) (g_check_checker_match : Checker → Node → Option (Checker)) (c : Checker) (n : Node) : Option (Checker) :=
  (check_checker_match_l0s g_check_checker_each n n.Kids 0 c.on c.f.E c.f.At c.vars).bind fun v =>
  some ({ vars := v.2.2.2, on := v.1, f := ({ E := v.2.1, At := v.2.2.1 } : Fault) } : Checker)
theorem check_checker_match_walk (g_check_checker_each : Checker → (List Node) → Option (Checker)) (H_g_check_checker_each : ∀ (c : Checker) (list : List Node) (f_list : Bool) (r : Checker) (H : g_check_checker_each c list = some r), ACalls Try.prog tab.S 22 [.ptr 0 0 none, .sl 29 (List.map Node.av list) f_list] [.box 53 [.ref mapK 1, .sc (.string c.on), .sc (.int .i64 c.f.E), .sc (.int .i64 c.f.At)], .vals .mapD (mapAV strA (intA .i64) c.vars)] (.tup []) [.box 53 [.ref mapK 1, .sc (.string r.on), .sc (.int .i64 r.f.E), .sc (.int .i64 r.f.At)], .vals .mapD (mapAV strA (intA .i64) r.vars)]) (g_check_checker_node : Checker → Node → Option (Checker)) (H_g_check_checker_node : ∀ (c : Checker) (n : Node) (r : Checker) (H : g_check_checker_node c n = some r), ACalls Try.prog tab.S 40 [.ptr 0 0 none, Node.ag n] [.box 53 [.ref mapK 1, .sc (.string c.on), .sc (.int .i64 c.f.E), .sc (.int .i64 c.f.At)], .vals .mapD (mapAV strA (intA .i64) c.vars)] (.tup []) [.box 53 [.ref mapK 1, .sc (.string r.on), .sc (.int .i64 r.f.E), .sc (.int .i64 r.f.At)], .vals .mapD (mapAV strA (intA .i64) r.vars)]) (g_check_checker_match : Checker → Node → Option (Checker)) (H_g_check_checker_match : ∀ (c : Checker) (n : Node) (r : Checker) (H : g_check_checker_match c n = some r), ACalls Try.prog tab.S 51 [.ptr 0 0 none, Node.ag n] [.box 53 [.ref mapK 1, .sc (.string c.on), .sc (.int .i64 c.f.E), .sc (.int .i64 c.f.At)], .vals .mapD (mapAV strA (intA .i64) c.vars)] (.tup []) [.box 53 [.ref mapK 1, .sc (.string r.on), .sc (.int .i64 r.f.E), .sc (.int .i64 r.f.At)], .vals .mapD (mapAV strA (intA .i64) r.vars)]) (c : Checker) (n : Node) (r : Checker) (H : check_checker_match_raw g_check_checker_each g_check_checker_node g_check_checker_match c n = some r) : ACalls Try.prog tab.S 51 [.ptr 0 0 none, Node.ag n] [.box 53 [.ref mapK 1, .sc (.string c.on), .sc (.int .i64 c.f.E), .sc (.int .i64 c.f.At)], .vals .mapD (mapAV strA (intA .i64) c.vars)] (.tup []) [.box 53 [.ref mapK 1, .sc (.string r.on), .sc (.int .i64 r.f.E), .sc (.int .i64 r.f.At)], .vals .mapD (mapAV strA (intA .i64) r.vars)] := by
  refine .of_AX check_checker_match_F Try.func51 fun c0 hc0 => ?_
  rw [check_checker_match_raw] at H
  refine .sg 5 [0,3,7,8,9] ?_
  refine bndO H fun v hv H => (.into (.to (check_checker_match_l0_walk g_check_checker_each H_g_check_checker_each g_check_checker_node H_g_check_checker_node g_check_checker_match H_g_check_checker_match c n r c0 hc0 v ?_ n.Kids 0 _ rfl rfl c.on c.f.E c.f.At c.vars hv)))
  obtain rfl := Option.some.inj H
  exact .ret Try.func51 hc0 [0,1]

def chkG : Nat → (Checker → (List Node) → Option (Checker)) × (Checker → Node → Option (Checker)) × (Checker → Node → Option (Checker))
  | 0 => (fun _ _ => none, fun _ _ => none, fun _ _ => none)
  | q + 1 => (check_checker_each_raw (chkG q).1 (chkG q).2.1 (chkG q).2.2, check_checker_node_raw (chkG q).1 (chkG q).2.1 (chkG q).2.2, check_checker_match_raw (chkG q).1 (chkG q).2.1 (chkG q).2.2)
theorem chkG_walk : ∀ q : Nat, (∀ (c : Checker) (list : List Node) (f_list : Bool) (r : Checker) (H : (chkG q).1 c list = some r), ACalls Try.prog tab.S 22 [.ptr 0 0 none, .sl 29 (List.map Node.av list) f_list] [.box 53 [.ref mapK 1, .sc (.string c.on), .sc (.int .i64 c.f.E), .sc (.int .i64 c.f.At)], .vals .mapD (mapAV strA (intA .i64) c.vars)] (.tup []) [.box 53 [.ref mapK 1, .sc (.string r.on), .sc (.int .i64 r.f.E), .sc (.int .i64 r.f.At)], .vals .mapD (mapAV strA (intA .i64) r.vars)]) ∧ (∀ (c : Checker) (n : Node) (r : Checker) (H : (chkG q).2.1 c n = some r), ACalls Try.prog tab.S 40 [.ptr 0 0 none, Node.ag n] [.box 53 [.ref mapK 1, .sc (.string c.on), .sc (.int .i64 c.f.E), .sc (.int .i64 c.f.At)], .vals .mapD (mapAV strA (intA .i64) c.vars)] (.tup []) [.box 53 [.ref mapK 1, .sc (.string r.on), .sc (.int .i64 r.f.E), .sc (.int .i64 r.f.At)], .vals .mapD (mapAV strA (intA .i64) r.vars)]) ∧ (∀ (c : Checker) (n : Node) (r : Checker) (H : (chkG q).2.2 c n = some r), ACalls Try.prog tab.S 51 [.ptr 0 0 none, Node.ag n] [.box 53 [.ref mapK 1, .sc (.string c.on), .sc (.int .i64 c.f.E), .sc (.int .i64 c.f.At)], .vals .mapD (mapAV strA (intA .i64) c.vars)] (.tup []) [.box 53 [.ref mapK 1, .sc (.string r.on), .sc (.int .i64 r.f.E), .sc (.int .i64 r.f.At)], .vals .mapD (mapAV strA (intA .i64) r.vars)])
  | 0 => ⟨(fun _ _ _ _ H => nomatch H), (fun _ _ _ H => nomatch H), (fun _ _ _ H => nomatch H)⟩
  | q + 1 => ⟨check_checker_each_walk (chkG q).1 (chkG_walk q).1 (chkG q).2.1 (chkG_walk q).2.1 (chkG q).2.2 (chkG_walk q).2.2, check_checker_node_walk (chkG q).1 (chkG_walk q).1 (chkG q).2.1 (chkG_walk q).2.1 (chkG q).2.2 (chkG_walk q).2.2, check_checker_match_walk (chkG q).1 (chkG_walk q).1 (chkG q).2.1 (chkG_walk q).2.1 (chkG q).2.2 (chkG_walk q).2.2⟩
/-! ### check.Check: function 11 -/
noncomputable def check_Check_F : Go.Sh.Fn := ⟨11, bodyOf Try.f11, 36⟩
def check_Check_l0s : List Node → List (ByteArray × Int) → ByteArray → Int → Int → Option ((List (ByteArray × Int)) × ByteArray × Int × Int)
  | [], o2, c_1, c_2_0, c_2_1 =>
    some (o2, c_1, c_2_0, c_2_1)
  | x :: rest, o2, c_1, c_2_0, c_2_1 =>
    (bif (x.Kind == 3) then
      ((chkG 400).1 ({ vars := o2, on := x.Text, f := ({ E := c_2_0, At := c_2_1 } : Fault) } : Checker) x.Kids).bind fun v1 =>
      check_Check_l0s rest v1.vars v1.on v1.f.E v1.f.At
    else
      check_Check_l0s rest o2 c_1 c_2_0 c_2_1)
theorem check_Check_l0_walk (n : Node) (v : Checker) (r : Fault) (c0 : Ctx) (hc0 : c0.m.length = 0) (res : (List (ByteArray × Int)) × ByteArray × Int × Int) (J : AX Try.prog tab check_Check_F c0 (Rp tab.S c0 (Fault.av r) []) (some ⟨[.code [1, 1, 1, 1]], [(2, .ptr 1 0 none), (3, .ptr 3 0 none)], [.box 29 (Node.ch n), .box 32 [.sc (.int .i64 0), .sc (.int .i64 0)], .vals .mapD (mapAV strA (intA .i64) res.1), .box 53 [.ref mapK 2, .sc (.string res.2.1), .sc (.int .i64 res.2.2.1), .sc (.int .i64 res.2.2.2)]]⟩)) :
    ∀ (rest : List Node) (t15 : Nat) (z : Int) (hI : z = ((t15 : Nat) : Int)) (hd : n.Kids.drop t15 = rest) (o2 : List (ByteArray × Int)) (c_1 : ByteArray) (c_2_0 : Int) (c_2_1 : Int) (H : check_Check_l0s rest o2 c_1 c_2_0 c_2_1 = some res), AX Try.prog tab check_Check_F c0 (Rp tab.S c0 (Fault.av r) []) (some ⟨[.code [1, 1, 1, 0, 1, 0, 0], .loop [1, 1, 1, 0, 1, 0], .blk 0, .code [1, 1, 1, 1]], [(2, .ptr 1 0 none), (3, .ptr 3 0 none), (13, .sl 29 (List.map Node.av n.Kids) false), (14, .sc (.int .i64 (((List.map Node.av n.Kids).length : Nat) : Int))), (15, .sc (.int .i64 z))], [.box 29 (Node.ch n), .box 32 [.sc (.int .i64 0), .sc (.int .i64 0)], .vals .mapD (mapAV strA (intA .i64) o2), .box 53 [.ref mapK 2, .sc (.string c_1), .sc (.int .i64 c_2_0), .sc (.int .i64 c_2_1)]]⟩) := by
  intro rest
  induction rest with
  | nil =>
    intro t15 z hI hd o2 c_1 c_2_0 c_2_1 H
    subst hI
    rw [check_Check_l0s] at H
    refine .facts 13 fun hf => ?_
    have hlen : n.Kids.length ≤ 9223372036854775807 := by have hq := len_ok hf.2.1; rw [List.length_map] at hq; exact hq
    have hge : n.Kids.length ≤ t15 := List.drop_eq_nil_iff.1 hd
    have hc : (decide (((t15 : Nat) : Int) < (((List.map Node.av n.Kids).length : Nat) : Int))) = false := by rw [List.length_map]; exact decide_eq_false (by omega)
    refine .sg 3 [2,3,13,14,15,16] (.cdF hc (.sg 1 [2,3] (.kp [2,3] ?_)))
    obtain rfl := Option.some.inj H
    exact .to J
  | cons x rest ih =>
    intro t15 z hI hd o2 c_1 c_2_0 c_2_1 H
    subst hI
    rw [check_Check_l0s] at H
    refine .facts 13 fun hf => ?_
    have hlen : n.Kids.length ≤ 9223372036854775807 := by have hq := len_ok hf.2.1; rw [List.length_map] at hq; exact hq
    obtain ⟨hlt, hv_t15, hd2⟩ := drop_cons hd
    have hc : (decide (((t15 : Nat) : Int) < (((List.map Node.av n.Kids).length : Nat) : Int))) = true := by rw [List.length_map]; exact decide_eq_true (by omega)
    have hw : IntKind.i64.wrap (((t15 : Nat) : Int) + 1) = ((t15 + 1 : Nat) : Int) := wrapI_succ (by omega)
    refine .sg 3 [2,3,13,14,15,16] (.cdT hc (.sg 4 [2,3,13,14,15] (.rg (.xg [2,3,13,14,15,17] Node.av Node.ag Node.av_eq hv_t15 (.sg 3 [2,3,5,13,14,15] (.dn (.sg 2 [2,3,5,13,14,15,21] (.cd (x.Kind == 3) H (fun hb H => ?_) (fun hb H => ?_)))))))))
    ·
      exact .sg 2 [2,3,5,13,14,15] (.rg (.sg 3 [2,3,13,14,15,27,29] (bndO H fun v1 hv H => (.ch [2,3,13,14,15] [3,2] ((chkG_walk 400).1 ({ vars := o2, on := x.Text, f := ({ E := c_2_0, At := c_2_1 } : Fault) } : Checker) x.Kids false v1 hv) (.dn (.sg 2 [2,3,13,14,15] (.tl hc0 [0,1,2,3] [2,3,13,14,15] (.into (.cl (ih (t15 + 1) _ hw hd2 v1.vars v1.on v1.f.E v1.f.At H))))))))))
    ·
      exact .sg 3 [2,3,13,14,15] (.tl hc0 [0,1,2,3] [2,3,13,14,15] (.into (.cl (ih (t15 + 1) _ hw hd2 o2 c_1 c_2_0 c_2_1 H))))

def check_Check_raw (n : Node) : Option (Fault) :=
  letT (check_checker_heads ({ vars := ([] : List (ByteArray × Int)), on := ⟨#[]⟩, f := ({ E := 0, At := 0 } : Fault) } : Checker) n) fun v =>
  (check_Check_l0s n.Kids v.vars v.on v.f.E v.f.At).bind fun v1 =>
  some ({ E := v1.2.2.1, At := v1.2.2.2 } : Fault)
theorem check_Check_walk (n : Node) (r : Fault) (H : check_Check_raw n = some r) : ACalls Try.prog tab.S 11 [Node.ag n] [] (Fault.av r) [] := by
  refine .of_AX check_Check_F Try.func11 fun c0 hc0 => ?_
  rw [check_Check_raw] at H
  refine .sg 3 [1,2] (.rg (.mkm [1,2,6] (.sg 3 [1,2,3] (.dn (.sg 1 [1,2,3] (.rg (.sg 2 [1,2,3,9,10] (letH H fun v hv H => (.ch [1,2,3] [3,2] (check_checker_heads_walk ({ vars := ([] : List (ByteArray × Int)), on := ⟨#[]⟩, f := ({ E := 0, At := 0 } : Fault) } : Checker) n v hv) (.dn (.sg 4 [2,3,13,14,15] ?_)))))))))))
  refine bndO H fun v1 hv H => (.into (.to (check_Check_l0_walk n v r c0 hc0 v1 ?_ n.Kids 0 _ rfl rfl v.vars v.on v.f.E v.f.At hv)))
  refine .sg 2 [2] ?_
  obtain rfl := Option.some.inj H
  exact .ret Try.func11 hc0

end Go.Proofs.Ytinmkhkehfjcaaa

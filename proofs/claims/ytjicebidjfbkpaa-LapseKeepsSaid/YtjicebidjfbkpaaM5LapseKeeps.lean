import Derived.Test.YtjicebidjfbkpaaM4LapseKeeps
set_option linter.unusedVariables false
set_option linter.unusedSimpArgs false
set_option maxRecDepth 100000
set_option maxHeartbeats 4000000
namespace Go.Proofs.Ytjicebidjfbkpaa
open Go.Sh
noncomputable def lapse_TickP_F : Go.Sh.Fn := ⟨11, bodyOf Try.f11, 41⟩
def lapse_TickP_l0s (n1 : Int) : List Rule → List Rule → List Rule → Option ((List Rule) × (List Rule))
 | [], gone, left =>
  some (gone, left)
 | x :: rest, gone, left =>
  (bif (z27 ({ x with Quiet := (z26 x.Quiet n1), Age := (z26 x.Age n1) } : Rule)) then
   fitO (gone.length + [({ x with Quiet := (z26 x.Quiet n1), Age := (z26 x.Age n1) } : Rule)].length) 272 (
   lapse_TickP_l0s n1 rest (gone ++ [({ x with Quiet := (z26 x.Quiet n1), Age := (z26 x.Age n1) } : Rule)]) left)
  else
   fitO (left.length + [({ x with Quiet := (z26 x.Quiet n1), Age := (z26 x.Age n1) } : Rule)].length) 272 (
   lapse_TickP_l0s n1 rest gone (left ++ [({ x with Quiet := (z26 x.Quiet n1), Age := (z26 x.Age n1) } : Rule)])))
theorem lapse_TickP_l0_walk (list : List Rule) (n : Int) (v : (List Rule)) (n1 : Int) (f_list : Bool) (r : (List Rule) × (List Rule)) (c0 : Ctx) (hc0 : c0.m.length = 0) (res : (List Rule) × (List Rule)) (J : AX Try.prog tab lapse_TickP_F c0 (Rp tab.S c0 (.tup [.own 0 1000000, .own 1 1000000]) [.row 31 (List.map Rule.av r.1) 1000000 true, .row 31 (List.map Rule.av r.2) 1000000 true]) (some ⟨[.code [1, 1, 1]], [(4, .own 2 1000000), (5, .own 1 1000000)], [.row 31 (List.map Rule.av v) 2000000 true, .row 31 (List.map Rule.av res.1) 1000000 true, .row 31 (List.map Rule.av res.2) 1000000 true]⟩)) :
  ∀ (rest : List Rule) (t14 : Nat) (z : Int) (hI : z = ((t14 : Nat) : Int)) (hd : v.drop t14 = rest) (gone : List Rule) (left : List Rule) (H : lapse_TickP_l0s n1 rest gone left = some res), AX Try.prog tab lapse_TickP_F c0 (Rp tab.S c0 (.tup [.own 0 1000000, .own 1 1000000]) [.row 31 (List.map Rule.av r.1) 1000000 true, .row 31 (List.map Rule.av r.2) 1000000 true]) (some ⟨[.code [1, 1, 0, 1, 0, 0], .loop [1, 1, 0, 1, 0], .blk 0, .code [1, 1, 1]], [(1, .sc (.int .i64 n1)), (4, .own 2 1000000), (5, .own 1 1000000), (12, .own 0 2000000), (13, .sc (.int .i64 (((List.map Rule.av v).length : Nat) : Int))), (14, .sc (.int .i64 z))], [.row 31 (List.map Rule.av v) 2000000 true, .row 31 (List.map Rule.av gone) 1000000 true, .row 31 (List.map Rule.av left) 1000000 true]⟩) := by
 intro rest
 induction rest with
 | nil =>
  intro t14 z hI hd gone left H
  subst hI
  rw [lapse_TickP_l0s] at H
  refine .factsH 0 rfl fun hf => ?_
  have hlen : v.length ≤ 9223372036854775807 := by have hq := len_ok2 hf (of_decide_eq_true (by kernel_rfl)); rw [List.length_map] at hq; exact hq
  have hge : v.length ≤ t14 := List.drop_eq_nil_iff.1 hd
  have hc : (decide (((t14 : Nat) : Int) < (((List.map Rule.av v).length : Nat) : Int))) = false := by rw [List.length_map]; exact decide_eq_false (by omega)
  refine .sg 3 [1,4,5,12,13,14,15] (.cdF hc (.sg 1 [4,5] (.kp [4,5] ?_)))
  obtain rfl := Option.some.inj H
  exact .to J
 | cons x rest ih =>
  intro t14 z hI hd gone left H
  subst hI
  rw [lapse_TickP_l0s] at H
  refine .factsH 0 rfl fun hf => ?_
  have hlen : v.length ≤ 9223372036854775807 := by have hq := len_ok2 hf (of_decide_eq_true (by kernel_rfl)); rw [List.length_map] at hq; exact hq
  obtain ⟨hlt, hv_t14, hd2⟩ := drop_cons hd
  have hc : (decide (((t14 : Nat) : Int) < (((List.map Rule.av v).length : Nat) : Int))) = true := by rw [List.length_map]; exact decide_eq_true (by omega)
  have hw : IntKind.i64.wrap (((t14 : Nat) : Int) + 1) = ((t14 + 1 : Nat) : Int) := wrapI_succ (by omega)
  refine .sg 3 [1,4,5,12,13,14,15] (.cdT hc (.sg 4 [1,4,5,12,13,14] (.rg (.xo [1,4,5,12,13,14,16] (ixO_req hv_t14 Rule.av) (.lo [1,4,5,12,13,14,17] (ixO_map hv_t14 Rule.av).2 (.sg 2 [1,4,5,7,12,13,14] (.dn (.sg 1 [1,4,5,7,12,13,14] (.rg (.sg 3 [1,4,5,7,12,13,14,19,20] (.cp [1,4,5,7,12,13,14,21] (z26_calls x.Age n1) (.sg 3 [1,4,5,7,12,13,14,21,23,24] (.cp [1,4,5,7,12,13,14,21,25] (z26_calls x.Quiet n1) (.sg 4 [1,4,5,7,12,13,14] (.dn (.sg 2 [1,4,5,7,12,13,14] (.rg (.sg 1 [1,4,5,7,12,13,14,28] (.cp [1,4,5,7,12,13,14,29] (z27_calls ({ x with Quiet := (z26 x.Quiet n1), Age := (z26 x.Age n1) } : Rule)) (.dn (.cd (z27 ({ x with Quiet := (z26 x.Quiet n1), Age := (z26 x.Age n1) } : Rule)) H (fun hb H => ?_) (fun hb H => ?_))))))))))))))))))))))
  ·
   exact .sg 1 [1,4,5,7,12,13,14] (.rg (.sg 3 [1,4,12,13,14,30,32] (fitH H fun hfit H => (.ap [1,4,12,13,14,33] Rule.av hfit (.sg 1 [1,4,5,12,13,14] (.dn (.sg 2 [1,4,5,12,13,14] (.tl hc0 [0,1,2] [1,4,5,12,13,14] (.into (.cl (ih (t14 + 1) _ hw hd2 (gone ++ [({ x with Quiet := (z26 x.Quiet n1), Age := (z26 x.Age n1) } : Rule)]) left H)))))))))))
  ·
   exact .sg 1 [1,4,5,7,12,13,14] (.rg (.sg 3 [1,5,12,13,14,34,36] (fitH H fun hfit H => (.ap [1,5,12,13,14,37] Rule.av hfit (.sg 1 [1,4,5,12,13,14] (.dn (.sg 2 [1,4,5,12,13,14] (.tl hc0 [0,1,2] [1,4,5,12,13,14] (.into (.cl (ih (t14 + 1) _ hw hd2 gone (left ++ [({ x with Quiet := (z26 x.Quiet n1), Age := (z26 x.Age n1) } : Rule)]) H)))))))))))
def lapse_TickP_raw (list : List Rule) (n : Int) : Option ((List Rule) × (List Rule)) :=
 (rule_CopyP_raw list).bind fun v =>
 (lapse_TickP_l0s (if 1048576 < (if 0 > n then 0 else n) then 1048576 else (if 0 > n then 0 else n)) v ([] : List Rule) ([] : List Rule)).bind fun v1 =>
 some (v1.2, v1.1)
theorem lapse_TickP_walk (list : List Rule) (n : Int) (f_list : Bool) (r : (List Rule) × (List Rule)) (H : lapse_TickP_raw list n = some r) : ACalls Try.prog tab.S 11 [.sl 1000031 (List.map RuleP.av list) f_list, .sc (.int .i64 n)] [] (.tup [.own 0 1000000, .own 1 1000000]) [.row 31 (List.map Rule.av r.1) 1000000 true, .row 31 (List.map Rule.av r.2) 1000000 true] := by
 refine .of_AX lapse_TickP_F Try.func11 fun c0 hc0 => ?_
 rw [lapse_TickP_raw] at H
 refine .sg 6 [0,1,4,5] (.rg (.sg 1 [1,4,5,11] (bndO H fun v hv H => (.ch [1,4,5,12] [] (rule_CopyP_walk _ f_list v hv) (.sg 2 [1,4,5,12,13,14] (.dn (.sg 1 [1,4,5,12,13,14] (.ad 5 31 true (.kp [1,4,5,12,13,14] (.ad 4 31 true (.kp [1,4,5,12,13,14] ?_)))))))))))
 refine bndO H fun v1 hv H => (.into (.to (lapse_TickP_l0_walk list n v (if 1048576 < (if 0 > n then 0 else n) then 1048576 else (if 0 > n then 0 else n)) f_list r c0 hc0 v1 ?_ v 0 _ rfl rfl ([] : List Rule) ([] : List Rule) hv)))
 refine .sg 2 [4,5] ?_
 obtain rfl := Option.some.inj H
 exact .ret Try.func11 hc0 [2,1]
noncomputable def lapse_HitP_F : Go.Sh.Fn := ⟨12, bodyOf Try.f12, 32⟩
def lapse_HitP_raw (list : List Rule) (at_ : Int) : Option ((List Rule)) :=
 (rule_CopyP_raw list).bind fun v =>
 (bif ((decide (at_ ≥ 0)) && (decide (at_ < (((List.map Rule.av v).length : Nat) : Int)))) then
  (ixO v at_).bind fun x =>
  some ((v.set at_.toNat ({ x with Hits := (z26 x.Hits 1) } : Rule)).set at_.toNat ({ Match := ({ x with Hits := (z26 x.Hits 1) } : Rule).Match, Prio := ({ x with Hits := (z26 x.Hits 1) } : Rule).Prio, Acts := ({ x with Hits := (z26 x.Hits 1) } : Rule).Acts, Idle := ({ x with Hits := (z26 x.Hits 1) } : Rule).Idle, Hard := ({ x with Hits := (z26 x.Hits 1) } : Rule).Hard, Owner := ({ x with Hits := (z26 x.Hits 1) } : Rule).Owner, Hits := ({ x with Hits := (z26 x.Hits 1) } : Rule).Hits, Quiet := 0, Age := ({ x with Hits := (z26 x.Hits 1) } : Rule).Age } : Rule))
 else
  some v)
theorem lapse_HitP_walk (list : List Rule) (at_ : Int) (f_list : Bool) (r : (List Rule)) (H : lapse_HitP_raw list at_ = some r) : ACalls Try.prog tab.S 12 [.sl 1000031 (List.map RuleP.av list) f_list, .sc (.int .i64 at_)] [] (.sl 31 (List.map Rule.av r) false) [] := by
 refine .of_AX lapse_HitP_F Try.func12 fun c0 hc0 => ?_
 rw [lapse_HitP_raw] at H
 refine .sg 3 [0,1] (.rg (.sg 1 [1,7] (bndO H fun v hv H => (.ch [1,8] [] (rule_CopyP_walk _ f_list v hv) (.sg 1 [1,5] (.dn (.sg 2 [1,5] (.rg (.sg 3 [1,5,11] (.mx 0 [1,5,16] (.dn (.cd ((decide (at_ ≥ 0)) && (decide (at_ < (((List.map Rule.av v).length : Nat) : Int)))) H (fun hb H => ?_) (fun hb H => ?_)))))))))))))
 ·
  refine .sg 1 [1,5] (.rg (.sg 2 [5,17,18] (bndO H fun x hv_x H => (.xo [5,19] (ixO_req hv_x Rule.av) (.sg 1 [5,6] (.dn (.rg (.sg 5 [5,20,21,24] (.lo [5,20,21,25] (ixO_map hv_x Rule.av).2 (.cp [5,20,21,26] (z26_calls x.Hits 1) (.sg 2 [5,21,26,28] (.st [5,21] Rule.av ({ x with Hits := (z26 x.Hits 1) } : Rule) (ixO_map hv_x Rule.av).2 (.sg 2 [5,30] (.st [5] Rule.av ({ Match := ({ x with Hits := (z26 x.Hits 1) } : Rule).Match, Prio := ({ x with Hits := (z26 x.Hits 1) } : Rule).Prio, Acts := ({ x with Hits := (z26 x.Hits 1) } : Rule).Acts, Idle := ({ x with Hits := (z26 x.Hits 1) } : Rule).Idle, Hard := ({ x with Hits := (z26 x.Hits 1) } : Rule).Hard, Owner := ({ x with Hits := (z26 x.Hits 1) } : Rule).Owner, Hits := ({ x with Hits := (z26 x.Hits 1) } : Rule).Hits, Quiet := 0, Age := ({ x with Hits := (z26 x.Hits 1) } : Rule).Age } : Rule) (set_get (ixO_map hv_x Rule.av).2 ({ x with Hits := (z26 x.Hits 1) } : Rule)) (.dn (.sg 2 [4] ?_))))))))))))))))
  obtain rfl := Option.some.inj H
  exact .ret Try.func12 hc0
 ·
  refine .sg 3 [4] ?_
  obtain rfl := Option.some.inj H
  exact .ret Try.func12 hc0
end Go.Proofs.Ytjicebidjfbkpaa
namespace Go.Proofs.Ytjicebidjfbkpaa
open Go.Sh
end Go.Proofs.Ytjicebidjfbkpaa
namespace Go.Proofs.Ytjicebidjfbkpaa
open Go.Sh
noncomputable def lk_F : Go.Sh.Fn := ⟨4, bodyOf Try.f4, 92⟩
section
variable {l A : List Rule} {f_l : Bool} {c1 D : Ctx} {r : AV}
theorem lk_l3 (hDf : D.flat = D) (hXN : ∀ b, b < D.X.N → D.X b) {i : Nat} {x : Rule} (hv : ixO A ((i : Nat) : Int) = some x) (hx : x.Acts.length ≤ 1152921504606846976)
  (J : AX Try.prog tab lk_F c1 (Rp tab.S c1 r []) (some ⟨[.blk 3, .code [1, 1, 1, 1, 1, 1, 1, 0, 1, 0, 0, 1, 1], .loop [1, 1, 1, 1, 1, 1, 1, 0, 1, 0], .blk 2, .code [1, 1, 1, 1, 1, 1, 1, 1]], [(0, .sl 1000031 (l.map RuleP.av) f_l), (5, .sl 1000031 (l.map RuleP.av) false), (11, .is (Jp tab.S D (.sl 31 (List.map Rule.av A) false))), (12, .sc (.int .i64 ((i : Nat) : Int)))], [.fam (junkF D) 0]⟩)) :
  ∀ (rest : List Act) (k : Nat) (z : Int) (hI : z = ((k : Nat) : Int)) (hd : x.Acts.drop k = rest), AX Try.prog tab lk_F c1 (Rp tab.S c1 r []) (some ⟨[.code [1, 1, 1, 1, 1, 1, 1, 0, 1, 0, 0, 1, 0, 0, 1, 0, 0], .loop [1, 1, 1, 1, 1, 1, 1, 0, 1, 0, 0, 1, 0, 0, 1, 0], .blk 4, .blk 3, .code [1, 1, 1, 1, 1, 1, 1, 0, 1, 0, 0, 1, 1], .loop [1, 1, 1, 1, 1, 1, 1, 0, 1, 0], .blk 2, .code [1, 1, 1, 1, 1, 1, 1, 1]], [(0, .sl 1000031 (l.map RuleP.av) f_l), (5, .sl 1000031 (l.map RuleP.av) false), (11, .is (Jp tab.S D (.sl 31 (List.map Rule.av A) false))), (12, .sc (.int .i64 ((i : Nat) : Int))), (13, .sc (.int .i64 z))], [.fam (junkF D) 0]⟩) := by
 intro rest
 induction rest with
 | nil =>
  intro k z hI hd
  subst hI
  have hge : x.Acts.length ≤ k := List.drop_eq_nil_iff.1 hd
  have hc : (decide (((k : Nat) : Int) < (((List.map Act.av x.Acts).length : Nat) : Int))) = false := by rw [List.length_map]; exact decide_eq_false (by omega)
  refine .sg 2 [0,5,11,12,13] (.rg (.sg 3 [0,5,11,12,13,56,57,58] (.jidx [0,5,11,12,13,56,59] D 31 Rule.av A false hv (.jfld [0,5,11,12,13,56,60] D (chD (Rule.av x)) 0 25 (.jls [0,5,11,12,13,56,61] D hDf 0 (chD (Rule.av x)) (0 + 25) 34 (List.map Act.av x.Acts) false (chD (.agg [.sc (.int .i64 x.Idle), .sc (.int .i64 x.Hard), .sc (.int .i64 x.Owner), .sc (.int .i64 x.Hits), .sc (.int .i64 x.Quiet), .sc (.int .i64 x.Age)])) (.jlen [0,5,11,12,13,56,62] D 34 (List.map Act.av x.Acts) false (.sg 1 [0,5,11,12,13,63] (.dn ?_))))))))
  exact .cdF hc (.sg 1 [0,5,11,12] (.kp [0,5,11,12] (.to J)))
 | cons a rest ih =>
  intro k z hI hd
  subst hI
  obtain ⟨hlt, hv2, hd2⟩ := drop_cons hd
  have hc : (decide (((k : Nat) : Int) < (((List.map Act.av x.Acts).length : Nat) : Int))) = true := by rw [List.length_map]; exact decide_eq_true (by omega)
  have hw : IntKind.i64.wrap (((k : Nat) : Int) + 1) = ((k + 1 : Nat) : Int) := wrapI_succ (by omega)
  refine .sg 2 [0,5,11,12,13] (.rg (.sg 3 [0,5,11,12,13,56,57,58] (.jidx [0,5,11,12,13,56,59] D 31 Rule.av A false hv (.jfld [0,5,11,12,13,56,60] D (chD (Rule.av x)) 0 25 (.jls [0,5,11,12,13,56,61] D hDf 0 (chD (Rule.av x)) (0 + 25) 34 (List.map Act.av x.Acts) false (chD (.agg [.sc (.int .i64 x.Idle), .sc (.int .i64 x.Hard), .sc (.int .i64 x.Owner), .sc (.int .i64 x.Hits), .sc (.int .i64 x.Quiet), .sc (.int .i64 x.Age)])) (.jlen [0,5,11,12,13,56,62] D 34 (List.map Act.av x.Acts) false (.sg 1 [0,5,11,12,13,63] (.dn ?_))))))))
  refine .cdT hc ?_
  refine .sg 3 [0,5,11,12,13] ?_
  refine .rg ?_
  refine .sg 2 [0,5,11,12,13,66,67] (.jidx [0,5,11,12,13,68] D 31 Rule.av A false hv (.jfld [0,5,11,12,13,69] D (chD (Rule.av x)) 0 25 (.jls [0,5,11,12,13,70] D hDf 0 (chD (Rule.av x)) (0 + 25) 34 (List.map Act.av x.Acts) false (chD (.agg [.sc (.int .i64 x.Idle), .sc (.int .i64 x.Hard), .sc (.int .i64 x.Owner), .sc (.int .i64 x.Hits), .sc (.int .i64 x.Quiet), .sc (.int .i64 x.Age)])) (.sg 1 [0,5,11,12,13,70,71] (.jidx [0,5,11,12,13,70,71,72] D 34 Act.av x.Acts false hv2 ?_)))))
  refine .jfld [0,5,11,12,13,70,71,73] D (chD (Act.av a)) 0 1 (.jli [0,5,11,12,13,70,71,74] D hDf 0 (chD (Act.av a)) (0 + 1) .i64 a.Port [.sc (.int .i64 a.Field), .sc (.int .u64 a.Value)] (.jad [0,5,11,12,13,70,71,75] .i64 1 ?_))
  refine .jidx [0,5,11,12,13,75,76] D 34 Act.av x.Acts false hv2 (.jfld [0,5,11,12,13,75,77] D (chD (Act.av a)) 0 1 (.jst [0,5,11,12,13] D hXN 0 (chD (Act.av a)) (0 + 1) .i64 a.Port [.sc (.int .i64 a.Field), .sc (.int .u64 a.Value)] (.dn ?_)))
  exact .sg 2 [0,5,11,12,13] (.into (.to (ih (k + 1) _ hw hd2)))
theorem lk_l2 (hDf : D.flat = D) (hXN : ∀ b, b < D.X.N → D.X b) (hA : A.length ≤ 1000) (hacts : ∀ x ∈ A, x.Acts.length ≤ 1152921504606846976)
  (J : AX Try.prog tab lk_F c1 (Rp tab.S c1 r []) (some ⟨[.code [1, 1, 1, 1, 1, 1, 1, 1]], [(0, .sl 1000031 (l.map RuleP.av) f_l), (5, .sl 1000031 (l.map RuleP.av) false), (11, .is (Jp tab.S D (.sl 31 (List.map Rule.av A) false)))], [.fam (junkF D) 0]⟩)) :
  ∀ (rest : List Rule) (i : Nat) (z : Int) (hI : z = ((i : Nat) : Int)) (hd : A.drop i = rest), AX Try.prog tab lk_F c1 (Rp tab.S c1 r []) (some ⟨[.code [1, 1, 1, 1, 1, 1, 1, 0, 1, 0, 0], .loop [1, 1, 1, 1, 1, 1, 1, 0, 1, 0], .blk 2, .code [1, 1, 1, 1, 1, 1, 1, 1]], [(0, .sl 1000031 (l.map RuleP.av) f_l), (5, .sl 1000031 (l.map RuleP.av) false), (11, .is (Jp tab.S D (.sl 31 (List.map Rule.av A) false))), (12, .sc (.int .i64 z))], [.fam (junkF D) 0]⟩) := by
 intro rest
 induction rest with
 | nil =>
  intro i z hI hd
  subst hI
  have hge : A.length ≤ i := List.drop_eq_nil_iff.1 hd
  have hc : (decide (((i : Nat) : Int) < (((List.map Rule.av A).length : Nat) : Int))) = false := by rw [List.length_map]; exact decide_eq_false (by omega)
  exact .sg 2 [0,5,11,12] (.rg (.sg 2 [0,5,11,12,50,51] (.jlen [0,5,11,12,50,52] D 31 (List.map Rule.av A) false (.sg 1 [0,5,11,12,53] (.dn (.cdF hc (.sg 1 [0,5,11] (.kp [0,5,11] (.to J)))))))))
 | cons x rest ih =>
  intro i z hI hd
  subst hI
  obtain ⟨hlt, hv, hd2⟩ := drop_cons hd
  have hc : (decide (((i : Nat) : Int) < (((List.map Rule.av A).length : Nat) : Int))) = true := by rw [List.length_map]; exact decide_eq_true (by omega)
  have hw : IntKind.i64.wrap (((i : Nat) : Int) + 1) = ((i + 1 : Nat) : Int) := wrapI_succ (by omega)
  refine .sg 2 [0,5,11,12] (.rg (.sg 2 [0,5,11,12,50,51] (.jlen [0,5,11,12,50,52] D 31 (List.map Rule.av A) false (.sg 1 [0,5,11,12,53] (.dn (.cdT hc ?_))))))
  refine .sg 6 [0,5,11,12,13] (.into (.to (lk_l3 (l := l) (f_l := f_l) hDf hXN hv (hacts x (List.mem_of_mem_drop (hd ▸ List.mem_cons_self))) ?_ x.Acts 0 _ rfl rfl)))
  exact .sg 2 [0,5,11,12] (.into (.to (ih (i + 1) _ hw hd2)))
end
theorem lk_l0 (l : List Rule) (n : Int) (f_l : Bool) (hl : l.length ≤ 40) (hacts : ∀ x ∈ l, (([] : List Act).length + x.Acts.length) * 32 ≤ reach) (c0 : Ctx) (hc0 : c0.m.length = 0) (r : AV)
  (J : AX Try.prog tab lk_F c0 (Rp tab.S c0 r []) (some ⟨[.code [1, 1, 1, 1]], [(0, .sl 31 (List.map Rule.av l) f_l), (1, .sc (.int .i64 n)), (5, .own 0 1000000)], [.row 31 (List.map Rule.av l) 1000000 true]⟩)) :
  ∀ (rest : List Rule) (i : Nat) (z : Int) (hI : z = ((i : Nat) : Int)) (hd : l.drop i = rest), AX Try.prog tab lk_F c0 (Rp tab.S c0 r []) (some ⟨[.code [1, 1, 1, 0, 1, 0, 0], .loop [1, 1, 1, 0, 1, 0], .blk 0, .code [1, 1, 1, 1]], [(0, .sl 31 (List.map Rule.av l) f_l), (1, .sc (.int .i64 n)), (5, .own 0 1000000), (6, .sc (.int .i64 z))], [.row 31 (List.map Rule.av (l.take i)) 1000000 true]⟩) := by
 intro rest
 induction rest with
 | nil =>
  intro i z hI hd
  subst hI
  have hge : l.length ≤ i := List.drop_eq_nil_iff.1 hd
  have hc : (decide (((i : Nat) : Int) < (((List.map Rule.av l).length : Nat) : Int))) = false := by rw [List.length_map]; exact decide_eq_false (by omega)
  rw [List.take_of_length_le hge]
  exact .sg 3 [0,1,5,6,21] (.cdF hc (.sg 1 [0,1,5] (.kp [0,1,5] (.to J))))
 | cons x rest ih =>
  intro i z hI hd
  subst hI
  obtain ⟨hlt, hv, hd2⟩ := drop_cons hd
  have hc : (decide (((i : Nat) : Int) < (((List.map Rule.av l).length : Nat) : Int))) = true := by rw [List.length_map]; exact decide_eq_true (by omega)
  have hw : IntKind.i64.wrap (((i : Nat) : Int) + 1) = ((i + 1 : Nat) : Int) := wrapI_succ (by omega)
  refine .sg 3 [0,1,5,6,21] (.cdT hc (.sg 4 [0,1,5,6] (.rg (.sg 2 [0,1,5,6,24,25] (.xi [0,1,5,6,26] Rule.av hv (.sg 3 [0,1,5,6,7] (.dn ?_)))))))
  refine .sg 1 [0,1,5,6,7] (.rg (.sg 3 [0,1,5,6,7,28,30] ?_))
  refine .ab (by_ := 32) [0,1,5,6,7,31] Act.av (A := []) (B := x.Acts) (hacts x (List.mem_of_mem_drop (hd ▸ List.mem_cons_self))) rfl ?_
  refine .sg 2 [0,1,5,6,7] (.dn ?_)
  refine .tl hc0 [0,1] [0,1,5,6,7] ?_
  refine .rg (.sg 3 [0,1,5,6,33,35] ?_)
  refine .ap (by_ := 272) [0,1,6,36] Rule.av (A := l.take i) (B := [x]) (by have := List.length_take_le i l; simp only [List.length_cons, List.length_nil, reach]; omega) ?_
  refine .sg 1 [0,1,5,6] (.dn ?_)
  have ht : l.take (i + 1) = l.take i ++ [x] := by
   have e : l[i]? = some x := by rw [← List.head?_drop, hd]; rfl
   rw [List.take_add_one, e]; rfl
  have hn := ih (i + 1) _ hw hd2
  rw [ht] at hn
  exact .tl hc0 [0] [0,1,5,6] (.sg 2 [0,1,5,6] (.into (.to hn)))
theorem lk_walk (l : List Rule) (n : Int) (f_l : Bool) (hl : l.length ≤ 40) (hacts : ∀ x ∈ l, (([] : List Act).length + x.Acts.length) * 32 ≤ reach)
  (v : List Rule × List Rule) (hv : lapse_TickP_raw l 3 = some v) (hvl : v.1.length + v.2.length = l.length) (u : List Rule) (hu : lapse_HitP_raw l n = some u) (hul : u.length = l.length) (hS : ACalls Try.prog tab.S 13 [.sl 31 (List.map Rule.av l) false, .sl 31 (List.map Rule.av l) f_l] [] (.sc (.bool true)) []) (hA : (v.1 ++ v.2 ++ u).length ≤ 1000) (hactsA : ∀ x ∈ v.1 ++ v.2 ++ u, x.Acts.length ≤ 1152921504606846976) : ACalls Try.prog tab.S 4 [.sl 31 (List.map Rule.av l) f_l, .sc (.int .i64 n)] [] (.sc (.bool ((((List.map Rule.av (v.1 ++ v.2 ++ u)).length : Nat) : Int) == IntKind.i64.wrap (2 * (((List.map RuleP.av l).length : Nat) : Int))))) [] := by
 refine .of_AX lk_F Try.func4 fun c0 hc0 => ?_
 have hc : (decide ((((List.map Rule.av l).length : Nat) : Int) > 40)) = false := by rw [List.length_map]; exact decide_eq_false (by omega)
 refine .sg 5 [0,1,16] (.cdF hc (.sg 7 [0,1,5,6] (.ad 5 31 true (.kp [0,1,5,6] (.into (.to (lk_l0 l n f_l hl hacts c0 hc0 _ ?_ l 0 _ rfl rfl)))))))
 refine .tl hc0 [] [0,1,5] ?_
 refine .shown hc0 [(0, .sl 1000031 (l.map RuleP.av) f_l), (1, .sc (.int .i64 n)), (5, .sl 1000031 (l.map RuleP.av) false)] rfl (fun C D k => ⟨rfl, MkC.one k rfl rfl (Mk.sl (fun x _ => RuleP.mk x) (by kernel_rfl) (by decide) _), rfl, MkC.scal, rfl, MkC.one k rfl rfl (Mk.sl (fun x _ => RuleP.mk x) (by kernel_rfl) (by decide) _), trivial⟩) (fun c1 hsh hX1 => ?_)
 have hc1 : c1.m.length = 0 := by rw [hsh.m]; rfl
 refine .sg 1 [0,1,5] (.rg (.sg 1 [0,1,5,38] (.ch [0,1,5,39] [] (lapse_TickP_walk l 3 false v hv) (.sg 5 [0,1,5,8,9] (.dn ?_)))))
 refine .sg 1 [0,1,5,8,9] (.rg (.sg 2 [0,5,8,9,42,43] (.cp [0,5,8,9,44] (lapse_HitP_walk l n false u hu) (.sg 1 [0,5,8,9,10] (.dn ?_)))))
 refine .sg 1 [0,5,8,9,10] (.rg (.sg 2 [0,5,10,45,46] ?_))
 refine .ap (by_ := 272) [0,5,10,47] Rule.av (A := v.1) (B := v.2) (by simp only [reach]; omega) ?_
 refine .sg 1 [0,5,47,48] ?_
 refine .ap (by_ := 272) [0,5,49] Rule.av (A := v.1 ++ v.2) (B := u) (by rw [List.length_append]; simp only [reach]; omega) ?_
 refine .sg 1 [0,5,11] (.dn ?_)
 refine .tl hc1 [] [0,5,11] (.to (c := ⟨[.code [1, 1, 1, 1, 1, 1, 1]], [(0, .sl 1000031 (l.map RuleP.av) f_l), (5, .sl 1000031 (l.map RuleP.av) false), (11, .sl 31 (List.map Rule.av (v.1 ++ v.2 ++ u)) false)], []⟩) ?_)
 refine .junk hX1 hsh.N (fun D => [(0, .sl 1000031 (l.map RuleP.av) f_l), (5, .sl 1000031 (l.map RuleP.av) false), (11, .is (Jp tab.S D (.sl 31 (List.map Rule.av (v.1 ++ v.2 ++ u)) false)))]) (fun _ => []) (fun C D E jk => ⟨rfl, JkV.pk jk rfl (PK.sl (fun x _ => RuleP.pk x) (by decide) _), rfl, JkV.pk jk rfl (PK.sl (fun x _ => RuleP.pk x) (by decide) _), rfl, JkV.sl jk, trivial⟩) (fun _ _ _ _ => .nil) (fun D hDf hXN => ?_)
 refine .sg 4 [0,5,11,12] (.into (.to (lk_l2 (l := l) (f_l := f_l) hDf hXN hA hactsA ?_ (v.1 ++ v.2 ++ u) 0 _ rfl rfl)))
 refine .sg 1 [0,5,11] (.rg ?_)
 refine .cp [0,5,11,78] z10_ok ?_
 refine .sg 3 [0,5,11,79,80,81] ?_
 refine .cp [0,5,11,79,82] (.un (l := [.sl 1000031 (List.map RuleP.av l) false, .sl 1000031 (List.map RuleP.av l) f_l]) (by (repeat' (first | exact CvL.nil | exact Cvs.nil | refine CvL.cons ?_ ?_ | refine Cvs.cons ?_ ?_ | exact Cv.scal rfl | exact Cv1.scal rfl | refine Cv.agg ?_ | refine Cv1.agg ?_ | refine Cv1.one ?_ rfl rfl | (refine Un.sl (fun _ _ => ?_) ?_ ?_ _ <;> first | kernel_rfl | decide | skip) | (refine Mk.sl (fun _ _ => ?_) ?_ ?_ _ <;> first | kernel_rfl | decide | skip) | (refine PK.sl (fun _ _ => ?_) ?_ _ <;> first | kernel_rfl | decide | skip) | refine Un.ep ?_ _ _ | refine Cv.fn ?_))) hS) ?_
 refine .sg 3 [0,11,84,85] ?_
 refine .jlen [0,84,86] D 31 (List.map Rule.av (v.1 ++ v.2 ++ u)) false ?_
 exact .sg 6 [4] (.dn (.ret Try.func4 hc1))
theorem lk_out (l : List Rule) (n : Int) (f_l : Bool) (hl : ¬ l.length ≤ 40) : ACalls Try.prog tab.S 4 [.sl 31 (List.map Rule.av l) f_l, .sc (.int .i64 n)] [] (.sc (.bool true)) [] := by
 refine .of_AX lk_F Try.func4 fun c0 hc0 => ?_
 have hc : (decide ((((List.map Rule.av l).length : Nat) : Int) > 40)) = true := by rw [List.length_map]; exact decide_eq_true (by omega)
 exact .sg 5 [0,1,16] (.cdT hc (.sg 1 [] (.rg (.cp [17] z10_ok (.sg 1 [4] (.dn (.ret Try.func4 hc0)))))))
theorem CopyP_l0 : ∀ (l out : List Rule), (out.length + l.length) * 272 ≤ 140737488355328 → rule_CopyP_l0s l out = some (out ++ l)
 | [], out, _ => by rw [rule_CopyP_l0s, List.append_nil]
 | x :: l, out, h => by
   rw [List.length_cons] at h
   have e : rule_copiedP x = x := rfl
   rw [rule_CopyP_l0s, fitO_eq (by rw [List.length_cons, List.length_nil]; omega), e, CopyP_l0 l (out ++ [x]) (by rw [List.length_append, List.length_cons, List.length_nil]; omega), List.append_assoc]
   rfl
theorem CopyP_eq (l : List Rule) (h : l.length ≤ 1000) : rule_CopyP_raw l = some l := by
 rw [rule_CopyP_raw, CopyP_l0 l [] (by rw [List.length_nil]; omega)]
 rfl
def ofL (l : List Rule) (m : List Rule) : Prop := ∀ x ∈ m, ∃ y ∈ l, x.Acts = y.Acts
theorem ofL.app {l a b : List Rule} (h : ofL l a) (k : ofL l b) : ofL l (a ++ b) := fun x hx => (List.mem_append.1 hx).elim (h x) (k x)
theorem ofL.set {l a : List Rule} (h : ofL l a) {i : Nat} {y : Rule} (hy : ∃ z ∈ l, y.Acts = z.Acts) : ofL l (a.set i y) := fun x hx => by
 rcases List.mem_or_eq_of_mem_set hx with hx | rfl
 ·exact h x hx
 ·exact hy
theorem TickP_l0 (n1 : Int) (L : List Rule) : ∀ (l gone left : List Rule), (∀ x ∈ l, x ∈ L) → ofL L gone → ofL L left → gone.length + left.length + l.length ≤ 1000 → ∃ v, lapse_TickP_l0s n1 l gone left = some v ∧ v.1.length + v.2.length = gone.length + left.length + l.length ∧ ofL L v.1 ∧ ofL L v.2
 | [], gone, left, _, h1, h2, _ => ⟨(gone, left), rfl, by simp, h1, h2⟩
 | x :: l, gone, left, hm, h1, h2, hl => by
   rw [List.length_cons] at hl
   have hx : ofL L [({ x with Quiet := (z26 x.Quiet n1), Age := (z26 x.Age n1) } : Rule)] := fun y hy => ⟨x, hm x (by simp), by rw [List.mem_singleton.1 hy]⟩
   have hm' : ∀ y ∈ l, y ∈ L := fun y hy => hm y (by simp [hy])
   rw [lapse_TickP_l0s]
   cases z27 _
   ·obtain ⟨v, e1, e2, e3, e4⟩ := TickP_l0 n1 L l gone (left ++ [_]) hm' h1 (h2.app hx) (by rw [List.length_append, List.length_singleton]; omega)
    rw [cond_false, fitO_eq (by rw [List.length_singleton]; omega)]
    exact ⟨v, e1, by rw [e2, List.length_append, List.length_singleton, List.length_cons]; omega, e3, e4⟩
   ·obtain ⟨v, e1, e2, e3, e4⟩ := TickP_l0 n1 L l (gone ++ [_]) left hm' (h1.app hx) h2 (by rw [List.length_append, List.length_singleton]; omega)
    rw [cond_true, fitO_eq (by rw [List.length_singleton]; omega)]
    exact ⟨v, e1, by rw [e2, List.length_append, List.length_singleton, List.length_cons]; omega, e3, e4⟩
theorem TickP_some (l : List Rule) (h : l.length ≤ 1000) : ∃ v, lapse_TickP_raw l 3 = some v ∧ v.1.length + v.2.length = l.length ∧ ofL l v.1 ∧ ofL l v.2 := by
 obtain ⟨v, e1, e2, e3, e4⟩ := TickP_l0 (if 1048576 < (if 0 > (3 : Int) then 0 else 3) then 1048576 else (if 0 > (3 : Int) then 0 else 3)) l l [] [] (fun _ h => h) (fun _ h => by simp at h) (fun _ h => by simp at h) (by simpa using h)
 refine ⟨(v.2, v.1), ?_, ?_, e4, e3⟩
 ·rw [lapse_TickP_raw, CopyP_eq l h, Option.bind_some]
  exact congrArg (fun o => Option.bind o (fun v1 : List Rule × List Rule => some (v1.2, v1.1))) e1
 ·simp only [List.length_nil] at e2
  simp only
  omega
theorem HitP_some (l : List Rule) (n : Int) (h : l.length ≤ 1000) : ∃ u, lapse_HitP_raw l n = some u ∧ u.length = l.length ∧ ofL l u := by
 have hs : ofL l l := fun x hx => ⟨x, hx, rfl⟩
 rw [lapse_HitP_raw, CopyP_eq l h, Option.bind_some]
 cases hb : (decide (n ≥ 0)) && (decide (n < (((List.map Rule.av l).length : Nat) : Int)))
 ·exact ⟨l, rfl, rfl, hs⟩
 ·rw [Bool.and_eq_true, decide_eq_true_eq, decide_eq_true_eq, List.length_map] at hb
  obtain ⟨m, rfl⟩ : ∃ m : Nat, n = (m : Int) := ⟨n.toNat, by omega⟩
  have hm : m < l.length := by omega
  rw [ixO_lt hm]
  refine ⟨_, rfl, by rw [List.length_set, List.length_set], ?_⟩
  refine ofL.set (ofL.set hs ?_) ?_ <;> exact ⟨l[m], List.getElem_mem hm, rfl⟩
theorem Same_refl (l : List Rule) : zipAll z28 l l = true := by
 rw [ref_Same_eq, beq_self_eq_true]
theorem lk_hand (l : List Rule) (n : Int) (f_l : Bool) : ACalls Try.prog tab.S 4 [.sl 31 (List.map Rule.av l) f_l, .sc (.int .i64 n)] [] (.sc (.bool true)) [] := by
 by_cases hl : l.length ≤ 40
 ·refine ACalls.facts (ent_of Try.func4 (by kernel_rfl) (by kernel_rfl)) fun hf => ?_
  obtain ⟨v, hv, hvl, hv1, hv2⟩ := TickP_some l (by omega)
  obtain ⟨u, hu, hul, hu1⟩ := HitP_some l n (by omega)
  have hact : ∀ x ∈ l, x.Acts.length * 32 ≤ reach := by
   intro x hx
   have h1 := factsL_mem hf.1.2.2 (List.mem_map_of_mem (f := Rule.av) hx)
   have h2 : (List.map Act.av x.Acts).length * 32 ≤ reach := h1.2.2.2.1.1
   rwa [List.length_map] at h2
  have hS : ACalls Try.prog tab.S 13 [.sl 31 (List.map Rule.av l) false, .sl 31 (List.map Rule.av l) f_l] [] (.sc (.bool true)) [] := by
   have h := z13_ok l l false f_l
   rw [Same_refl] at h
   exact h
  have h := lk_walk l n f_l hl (fun x hx => by rw [List.length_nil, Nat.zero_add]; exact hact x hx) v hv hvl u hu hul hS (by rw [List.length_append, List.length_append]; omega) (fun x hx => by
   obtain ⟨y, hy, e⟩ := ((hv1.app hv2).app hu1) x hx
   rw [e]
   have := hact y hy
   simp only [reach] at this
   omega)
  have e : ((((List.map Rule.av (v.1 ++ v.2 ++ u)).length : Nat) : Int) == IntKind.i64.wrap (2 * (((List.map RuleP.av l).length : Nat) : Int))) = true := by
   rw [List.length_map, List.length_map, List.length_append, List.length_append, wrapI_eq (by omega) (by omega)]
   rw [beq_iff_eq]
   omega
  rw [e] at h
  exact h
 ·exact lk_out l n f_l hl
end Go.Proofs.Ytjicebidjfbkpaa
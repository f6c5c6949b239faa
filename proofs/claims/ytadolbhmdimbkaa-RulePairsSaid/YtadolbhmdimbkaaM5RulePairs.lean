import Derived.Test.YtadolbhmdimbkaaM4RulePairs
set_option linter.unusedVariables false
set_option linter.unusedSimpArgs false
set_option maxRecDepth 100000
set_option maxHeartbeats 4000000
namespace Go.Proofs.Ytadolbhmdimbkaa
open Go.Sh
/-! ### podestaref01.Cube: function 39 -/
noncomputable def podestaref01_Cube_F : Go.Sh.Fn := ⟨39, bodyOf Try.f39, 11⟩
def podestaref01_Cube (c : Cube) : Bool :=
  (textT c).2
theorem podestaref01_Cube_calls (c : Cube) : ACalls Try.prog tab.S 39 [Cube.av c] [] (.sc (.bool (podestaref01_Cube c))) [] := by
  generalize H : podestaref01_Cube c = r
  refine .of_AX podestaref01_Cube_F Try.func39 fun c0 hc0 => ?_
  rw [podestaref01_Cube] at H
  refine .sg 3 [1] (.rg (.sg 1 [6] (.cp [7] (podestaref01_Text_ok c) (.sg 5 [4] (.dn (.sg 2 [2] ?_))))))
  subst H
  exact .ret Try.func39 hc0

/-! ### podestaref04.span: function 41 -/
noncomputable def podestaref04_span_F : Go.Sh.Fn := ⟨41, bodyOf Try.f41, 12⟩
def podestaref04_span (n : Int) (most : Int) : Bool :=
  ((decide (n ≥ 0)) && (decide (n ≤ most)))
theorem podestaref04_span_calls (n : Int) (most : Int) : ACalls Try.prog tab.S 41 [.sc (.int .i64 n), .sc (.int .i64 most)] [] (.sc (.bool (podestaref04_span n most))) [] := by
  generalize H : podestaref04_span n most = r
  refine .of_AX podestaref04_span_F Try.func41 fun c0 hc0 => ?_
  rw [podestaref04_span] at H
  refine .sg 3 [0,1] (.rg (.sg 3 [0,1,7] (.mx 0 [11] (.sg 1 [4] (.dn ?_)))))
  subst H
  exact .ret Try.func41 hc0

/-! ### podestaref04.Rule: function 17 -/
noncomputable def podestaref04_Rule_F : Go.Sh.Fn := ⟨17, bodyOf Try.f17, 46⟩
def podestaref04_Rule (r2 : Rule) : Bool :=
  (((((((((podestaref01_Cube r2.Match) && (podestaref04_Acts r2.Acts)) && (podestaref04_span r2.Prio 65535)) && (podestaref04_span r2.Idle 1048576)) && (podestaref04_span r2.Hard 1048576)) && (podestaref04_span r2.Owner 255)) && (decide (r2.Hits ≥ 0))) && (decide (r2.Quiet ≥ 0))) && (decide (r2.Age ≥ 0)))
theorem podestaref04_Rule_calls (r2 : Rule) : ACalls Try.prog tab.S 17 [Rule.av r2] [] (.sc (.bool (podestaref04_Rule r2))) [] := by
  generalize H : podestaref04_Rule r2 = r
  refine .of_AX podestaref04_Rule_F Try.func17 fun c0 hc0 => ?_
  rw [podestaref04_Rule] at H
  refine .sg 3 [1] (.rg (.sg 2 [1,4] (.cp [1,5] (podestaref01_Cube_calls r2.Match) (.sg 1 [1,6] (.mm 6 (podestaref01_Cube r2.Match) 4 [.pure, .pure, .read, .pure] [1, 10] 10 (fun z => .sc (.bool (z && (podestaref04_Acts r2.Acts)))) ?J1 (fun hb J => ?ht1) (fun hb J => ?hf1))))))
  case ht1 =>
    exact .sg 2 [1,6,8] (.cp [1,6,9] (podestaref04_Acts_calls r2.Acts false) (.sg 1 [1,10] (.cl J)))
  case hf1 =>
    exact .sg 4 [1,10] (.cl J)
  refine .sg 1 [1,11] (.mm 11 ((podestaref01_Cube r2.Match) && (podestaref04_Acts r2.Acts)) 4 [.pure, .pure, .read, .pure] [1, 15] 15 (fun z => .sc (.bool (z && (podestaref04_span r2.Prio 65535)))) ?J2 (fun hb J => ?ht2) (fun hb J => ?hf2))
  case ht2 =>
    exact .sg 2 [1,11,13] (.cp [1,11,14] (podestaref04_span_calls r2.Prio 65535) (.sg 1 [1,15] (.cl J)))
  case hf2 =>
    exact .sg 4 [1,15] (.cl J)
  refine .sg 1 [1,16] (.mm 16 (((podestaref01_Cube r2.Match) && (podestaref04_Acts r2.Acts)) && (podestaref04_span r2.Prio 65535)) 4 [.pure, .pure, .read, .pure] [1, 20] 20 (fun z => .sc (.bool (z && (podestaref04_span r2.Idle 1048576)))) ?J3 (fun hb J => ?ht3) (fun hb J => ?hf3))
  case ht3 =>
    exact .sg 2 [1,16,18] (.cp [1,16,19] (podestaref04_span_calls r2.Idle 1048576) (.sg 1 [1,20] (.cl J)))
  case hf3 =>
    exact .sg 4 [1,20] (.cl J)
  refine .sg 1 [1,21] (.mm 21 ((((podestaref01_Cube r2.Match) && (podestaref04_Acts r2.Acts)) && (podestaref04_span r2.Prio 65535)) && (podestaref04_span r2.Idle 1048576)) 4 [.pure, .pure, .read, .pure] [1, 25] 25 (fun z => .sc (.bool (z && (podestaref04_span r2.Hard 1048576)))) ?J4 (fun hb J => ?ht4) (fun hb J => ?hf4))
  case ht4 =>
    exact .sg 2 [1,21,23] (.cp [1,21,24] (podestaref04_span_calls r2.Hard 1048576) (.sg 1 [1,25] (.cl J)))
  case hf4 =>
    exact .sg 4 [1,25] (.cl J)
  refine .sg 1 [1,26] (.mm 26 (((((podestaref01_Cube r2.Match) && (podestaref04_Acts r2.Acts)) && (podestaref04_span r2.Prio 65535)) && (podestaref04_span r2.Idle 1048576)) && (podestaref04_span r2.Hard 1048576)) 4 [.pure, .pure, .read, .pure] [1, 30] 30 (fun z => .sc (.bool (z && (podestaref04_span r2.Owner 255)))) ?J5 (fun hb J => ?ht5) (fun hb J => ?hf5))
  case ht5 =>
    exact .sg 2 [1,26,28] (.cp [1,26,29] (podestaref04_span_calls r2.Owner 255) (.sg 1 [1,30] (.cl J)))
  case hf5 =>
    exact .sg 4 [1,30] (.cl J)
  refine .sg 1 [1,31] (.mx 0 [1,35] (.sg 1 [1,36] (.mx 0 [1,40] (.sg 1 [1,41] (.mx 0 [45] (.sg 1 [2] (.dn ?_)))))))
  subst H
  exact .ret Try.func17 hc0

/-! ### podestaref01.Order: function 60 -/
noncomputable def podestaref01_Order_F : Go.Sh.Fn := ⟨60, bodyOf Try.f60, 24⟩
def podestaref01_Order_l0s (a : List Int) (b : List Int) : Nat → Nat → Sum (Unit) (Int)
  | 0, i =>
    (.inl ())
  | rest + 1, i =>
    (bif (decide ((a.getD (i) 0) < (b.getD (i) 0))) then
      (.inr (-1))
    else
      (bif (decide ((a.getD (i) 0) > (b.getD (i) 0))) then
        (.inr 1)
      else
        podestaref01_Order_l0s a b rest (i + 1) ))
theorem podestaref01_Order_l0_walk (a : List Int) (b : List Int) (r : Int) (c0 : Ctx) (hc0 : c0.m.length = 0) (res : Sum (Unit) (Int)) (J : ∀ w : Unit, res = .inl w → AX Try.prog tab podestaref01_Order_F c0 (Rp tab.S c0 (.sc (.int .i64 r)) []) (some ⟨[.code [1, 1]], [], [.box 25 [.arr .u64 12 a], .box 25 [.arr .u64 12 b]]⟩)) (Jr : ∀ w, res = .inr w → w = r) :
    ∀ (rest : Nat) (i : Nat) (z : Int) (hI : z = ((i : Nat) : Int)) (hd : i + rest = 12) (H : podestaref01_Order_l0s a b rest i = res), AX Try.prog tab podestaref01_Order_F c0 (Rp tab.S c0 (.sc (.int .i64 r)) []) (some ⟨[.code [1, 0, 1, 0, 0], .loop [1, 0, 1, 0], .blk 0, .code [1, 1]], [(2, .ptr 0 0 none), (3, .ptr 1 0 none), (5, .sc (.int .i64 z))], [.box 25 [.arr .u64 12 a], .box 25 [.arr .u64 12 b]]⟩) := by
  intro rest
  induction rest with
  | zero =>
    intro i z hI hd  H
    subst hI
    rw [podestaref01_Order_l0s] at H
    have hc : (decide (((i : Nat) : Int) < 12)) = false := decide_eq_false (by omega)
    exact .sg 3 [2,3,5,7] (.cdF hc (.sg 1 [] (.kp [] (.to (J () H.symm)))))
  | succ rest ih =>
    intro i z hI hd  H
    subst hI
    rw [podestaref01_Order_l0s] at H
    have hlt_i : i < 12 := by omega
    have hc : (decide (((i : Nat) : Int) < 12)) = true := decide_eq_true (by omega)
    have hw : IntKind.i64.wrap (((i : Nat) : Int) + 1) = ((i + 1 : Nat) : Int) := wrapI_succ (by omega)
    refine .sg 3 [2,3,5,7] (.cdT hc (.sg 5 [2,3,5] (.rg (.sg 1 [2,3,5,10] ?_))))
    have hreq := idx_in 12 hlt_i (by decide)
    refine .xa [2,3,5,11] hreq (.sg 2 [2,3,5,12,13] ?_)
    have hreq := idx_in 12 hlt_i (by decide)
    refine .xa [2,3,5,12,14] hreq (.sg 2 [2,3,5,16] (.dn (.cd (decide ((a.getD (i) 0) < (b.getD (i) 0))) H (fun hb H => ?_) (fun hb H => ?_))))
    ·
      refine .sg 2 [4] ?_
      subst H
      obtain rfl := Jr _ rfl
      exact .ret Try.func60 hc0
    ·
      refine .sg 2 [2,3,5] (.rg (.sg 1 [2,3,5,17] ?_))
      have hreq := idx_in 12 hlt_i (by decide)
      refine .xa [2,3,5,18] hreq (.sg 2 [2,3,5,19,20] ?_)
      have hreq := idx_in 12 hlt_i (by decide)
      refine .xa [2,3,5,19,21] hreq (.sg 2 [2,3,5,23] (.dn (.cd (decide ((a.getD (i) 0) > (b.getD (i) 0))) H (fun hb H => ?_) (fun hb H => ?_))))
      ·
        refine .sg 2 [4] ?_
        subst H
        obtain rfl := Jr _ rfl
        exact .ret Try.func60 hc0
      ·
        exact .sg 3 [2,3,5] (.kp [2,3,5] (.into (.cl (ih (i + 1) _ hw (by omega) H))))

def podestaref01_Order (a : List Int) (b : List Int) : Int :=
  sumG (fun q => q) (podestaref01_Order_l0s a b 12 0) fun v =>
  0
theorem podestaref01_Order_calls (a : List Int) (b : List Int) : ACalls Try.prog tab.S 60 [.arr .u64 12 a, .arr .u64 12 b] [] (.sc (.int .i64 (podestaref01_Order a b))) [] := by
  generalize H : podestaref01_Order a b = r
  refine .of_AX podestaref01_Order_F Try.func60 fun c0 hc0 => ?_
  rw [podestaref01_Order] at H
  refine .sg 6 [2,3,5] ?_
  rcases sumG_eq H with ⟨v, hv, H⟩ | ⟨r1, hv, hr1⟩
  case inr =>
    refine .into ?_
    replace hr1 : r1 = r := hr1
    subst hr1
    exact .to (podestaref01_Order_l0_walk a b _ c0 hc0 (.inr _) (fun _ e => by cases e) (fun _ e => (Sum.inr.inj e).symm) 12 0 _ rfl rfl hv)
  refine .into (.to (podestaref01_Order_l0_walk a b r c0 hc0 (.inl v) (fun w e => ?_) (fun _ e => by cases e) 12 0 _ rfl rfl hv))
  have e := Sum.inl.inj e
  subst e
  refine .sg 2 [4] ?_
  subst H
  exact .ret Try.func60 hc0

/-! ### podestaref01.Compare: function 42 -/
noncomputable def podestaref01_Compare_F : Go.Sh.Fn := ⟨42, bodyOf Try.f42, 19⟩
def podestaref01_Compare (a : Cube) (b : Cube) : Int :=
  (bif ((podestaref01_Order a.Care b.Care) != 0) then
    (podestaref01_Order a.Care b.Care)
  else
    (podestaref01_Order a.Value b.Value))
theorem podestaref01_Compare_calls (a : Cube) (b : Cube) : ACalls Try.prog tab.S 42 [Cube.av a, Cube.av b] [] (.sc (.int .i64 (podestaref01_Compare a b))) [] := by
  generalize H : podestaref01_Compare a b = r
  refine .of_AX podestaref01_Compare_F Try.func42 fun c0 hc0 => ?_
  rw [podestaref01_Compare] at H
  refine .sg 3 [2,3] (.rg (.sg 4 [2,3,7,9] (.cp [2,3,10] (podestaref01_Order_calls a.Care b.Care) (.sg 1 [2,3,5] (.dn (.sg 3 [2,3,5,12] (.cd ((podestaref01_Order a.Care b.Care) != 0) H (fun hb H => ?_) (fun hb H => ?_))))))))
  ·
    refine .sg 2 [4] ?_
    subst H
    exact .ret Try.func42 hc0
  ·
    refine .sg 2 [2,3] (.rg (.sg 4 [15,17] (.cp [18] (podestaref01_Order_calls a.Value b.Value) (.sg 1 [4] (.dn ?_)))))
    subst H
    exact .ret Try.func42 hc0

/-! ### podestaref04.Before: function 19 -/
noncomputable def podestaref04_Before_F : Go.Sh.Fn := ⟨19, bodyOf Try.f19, 21⟩
def podestaref04_Before (a : Rule) (b : Rule) : Bool :=
  (bif (a.Prio != b.Prio) then
    (decide (a.Prio > b.Prio))
  else
    (decide ((podestaref01_Compare a.Match b.Match) < 0)))
theorem podestaref04_Before_calls (a : Rule) (b : Rule) : ACalls Try.prog tab.S 19 [Rule.av a, Rule.av b] [] (.sc (.bool (podestaref04_Before a b))) [] := by
  generalize H : podestaref04_Before a b = r
  refine .of_AX podestaref04_Before_F Try.func19 fun c0 hc0 => ?_
  rw [podestaref04_Before] at H
  refine .sg 5 [2,3,9] (.cd (a.Prio != b.Prio) H (fun hb H => ?_) (fun hb H => ?_))
  ·
    refine .sg 2 [4] ?_
    subst H
    exact .ret Try.func19 hc0
  ·
    refine .sg 2 [2,3] (.rg (.sg 4 [16,18] (.cp [19] (podestaref01_Compare_calls a.Match b.Match) (.sg 2 [4] (.dn ?_)))))
    subst H
    exact .ret Try.func19 hc0

/-! ### podestaref04.Table: function 27 -/
noncomputable def podestaref04_Table_F : Go.Sh.Fn := ⟨27, bodyOf Try.f27, 33⟩
def podestaref04_Table_l0s (l : List Rule) : List Rule → Nat → Option (Sum (Unit) (Bool))
  | [], i =>
    some (.inl ())
  | x :: rest, i =>
    (bif (!(podestaref04_Rule x)) then
      some (.inr false)
    else
      (bif (decide (((i : Nat) : Int) > 0)) then
        (ixO l (IntKind.i64.wrap (((i : Nat) : Int) - 1))).bind fun x1 =>
        (bif (!(podestaref04_Before x1 x)) then
          some (.inr false)
        else
          podestaref04_Table_l0s l rest (i + 1) )
      else
        podestaref04_Table_l0s l rest (i + 1) ))
theorem podestaref04_Table_l0_walk (l : List Rule) (f_l : Bool) (r : Bool) (c0 : Ctx) (hc0 : c0.m.length = 0) (res : Sum (Unit) (Bool)) (J : ∀ w : Unit, res = .inl w → AX Try.prog tab podestaref04_Table_F c0 (Rp tab.S c0 (.sc (.bool r)) []) (some ⟨[.code [1, 1]], [], []⟩)) (Jr : ∀ w, res = .inr w → w = r) :
    ∀ (rest : List Rule) (i : Nat) (z : Int) (hI : z = ((i : Nat) : Int)) (hd : l.drop i = rest) (H : podestaref04_Table_l0s l rest i = some res), AX Try.prog tab podestaref04_Table_F c0 (Rp tab.S c0 (.sc (.bool r)) []) (some ⟨[.code [1, 0, 1, 0, 0], .loop [1, 0, 1, 0], .blk 0, .code [1, 1]], [(0, .sl 34 (List.map Rule.av l) f_l), (3, .sc (.int .i64 z))], []⟩) := by
  intro rest
  induction rest with
  | nil =>
    intro i z hI hd  H
    subst hI
    rw [podestaref04_Table_l0s] at H
    refine .facts 0 fun hf => ?_
    have hlen : l.length ≤ 9223372036854775807 := by have hq := len_ok hf.2.1; rw [List.length_map] at hq; exact hq
    have hge : l.length ≤ i := List.drop_eq_nil_iff.1 hd
    have hc : (decide (((i : Nat) : Int) < (((List.map Rule.av l).length : Nat) : Int))) = false := by rw [List.length_map]; exact decide_eq_false (by omega)
    exact .sg 3 [0,3,7] (.cdF hc (.sg 1 [] (.kp [] (.to (J () (Option.some.inj H).symm)))))
  | cons x rest ih =>
    intro i z hI hd  H
    subst hI
    rw [podestaref04_Table_l0s] at H
    refine .facts 0 fun hf => ?_
    have hlen : l.length ≤ 9223372036854775807 := by have hq := len_ok hf.2.1; rw [List.length_map] at hq; exact hq
    obtain ⟨hlt, hv_i, hd2⟩ := drop_cons hd
    have hc : (decide (((i : Nat) : Int) < (((List.map Rule.av l).length : Nat) : Int))) = true := by rw [List.length_map]; exact decide_eq_true (by omega)
    have hw : IntKind.i64.wrap (((i : Nat) : Int) + 1) = ((i + 1 : Nat) : Int) := wrapI_succ (by omega)
    refine .sg 3 [0,3,7] (.cdT hc (.sg 4 [0,3] (.rg (.sg 2 [0,3,10,11] (.xi [0,3,12] Rule.av hv_i (.sg 1 [0,3,13] (.cp [0,3,14] (podestaref04_Rule_calls x) (.sg 2 [0,3,16] (.sp 16 (!(podestaref04_Rule x)) H (fun hb H => ?_) (fun hb H => ?_))))))))))
    ·
      refine .sg 16 [0,3,32] (.dn (.sg 3 [2] ?_))
      obtain rfl := Option.some.inj H
      obtain rfl := Jr _ rfl
      exact .ret Try.func27 hc0
    ·
      refine .sg 3 [0,3,16,19] (.sp 19 (decide (((i : Nat) : Int) > 0)) H (fun hb H => ?_) (fun hb H => ?_))
      ·
        refine .sg 3 [0,3,16,19,20,22] (bndO H fun x1 hv H => (.xi [0,3,16,19,23] Rule.av hv (.sg 3 [0,3,16,19,24,25,26] (.xi [0,3,16,19,24,27] Rule.av hv_i (.sg 1 [0,3,16,19,24,28] (.cp [0,3,16,19,29] (podestaref04_Before_calls x1 x) (.sg 3 [0,3,32] (.dn (.cd (!(podestaref04_Before x1 x)) H (fun hb H => ?_) (fun hb H => ?_))))))))))
        ·
          refine .sg 2 [2] ?_
          obtain rfl := Option.some.inj H
          obtain rfl := Jr _ rfl
          exact .ret Try.func27 hc0
        ·
          exact .sg 3 [0,3] (.kp [0,3] (.into (.cl (ih (i + 1) _ hw hd2 H))))
      ·
        exact .sg 13 [0,3,32] (.dn (.sg 4 [0,3] (.kp [0,3] (.into (.cl (ih (i + 1) _ hw hd2 H))))))

def podestaref04_Table_raw (l : List Rule) : Option (Bool) :=
  loopO (podestaref04_Table_l0s l l 0) fun v =>
  some true
theorem podestaref04_Table_walk (l : List Rule) (f_l : Bool) (r : Bool) (H : podestaref04_Table_raw l = some r) : ACalls Try.prog tab.S 27 [.sl 34 (List.map Rule.av l) f_l] [] (.sc (.bool r)) [] := by
  refine .of_AX podestaref04_Table_F Try.func27 fun c0 hc0 => ?_
  rw [podestaref04_Table_raw] at H
  refine .sg 6 [0,3] ?_
  rcases loopO_some H with ⟨v, hv, H⟩ | hv
  case inr =>
    exact .into (.to (podestaref04_Table_l0_walk l f_l _ c0 hc0 (.inr _) (fun _ e => by cases e) (fun _ e => (Sum.inr.inj e).symm) l 0 _ rfl rfl hv))
  refine .into (.to (podestaref04_Table_l0_walk l f_l r c0 hc0 (.inl v) (fun w e => ?_) (fun _ e => by cases e) l 0 _ rfl rfl hv))
  have e := Sum.inl.inj e
  subst e
  refine .sg 2 [2] ?_
  obtain rfl := Option.some.inj H
  exact .ret Try.func27 hc0

end Go.Proofs.Ytadolbhmdimbkaa

set_option linter.unusedVariables false
set_option linter.unusedSimpArgs false
set_option maxRecDepth 100000
set_option maxHeartbeats 4000000
namespace Go.Proofs.Ytadolbhmdimbkaa
open Go.Sh
theorem setT_ok {h : List Int} {n v : Int} : ((setT_ h n v).2 == 0) = (head_there n && fitsH n v) := by
  unfold setT_
  cases head_there n
  · rfl
  · cases fitsH n v <;> rfl
theorem act_sound_eq {x : Act} (hv : 0 ≤ x.Value) : act_sound x = actOk x := by
  unfold act_sound actOk
  rw [setT_ok]
  unfold fitsH head_there
  rw [decide_eq_true hv, Bool.true_and]
  rw [Bool.eq_iff_iff]
  cases (x.Kind == 1)
  · cases (x.Kind == 2)
    · simp only [cond_false, Bool.and_eq_true]
      constructor
      · rintro ⟨a, b, c, d⟩; exact ⟨a, ⟨b, c⟩, d⟩
      · rintro ⟨a, ⟨b, c⟩, d⟩; exact ⟨a, b, c, d⟩
    · simp only [cond_false, cond_true, Bool.and_eq_true]
      constructor
      · rintro ⟨⟨⟨a, b⟩, c⟩, d⟩; exact ⟨⟨⟨d, a⟩, b⟩, c⟩
      · rintro ⟨⟨⟨d, a⟩, b⟩, c⟩; exact ⟨⟨⟨a, b⟩, c⟩, d⟩
  · rfl
theorem act_Sound_eq {l : List Act} (hv : ∀ x ∈ l, 0 ≤ x.Value) : act_Sound l = ActsOk l := by
  unfold act_Sound ActsOk
  rw [slices_ContainsFunc__api_Act_any, List.length_map]
  have e : (l.any act_Sound_1) = !(l.all actOk) := by
    rw [← Bool.not_not (l.any act_Sound_1), List.not_any_eq_all_not]
    congr 1
    rw [Bool.eq_iff_iff, List.all_eq_true, List.all_eq_true]
    constructor
    · intro h x hx
      have := h x hx
      unfold act_Sound_1 at this
      rw [act_sound_eq (hv x hx), Bool.not_not] at this
      exact this
    · intro h x hx
      unfold act_Sound_1
      rw [act_sound_eq (hv x hx), Bool.not_not]
      exact h x hx
  rw [e, Bool.not_not, Bool.and_comm]
  congr 1
  rw [Bool.eq_iff_iff, decide_eq_true_eq, decide_eq_true_eq]
  omega

theorem u64_nonneg {v : Int} (h : intW .u64 v) : 0 ≤ v := by
  unfold intW Go.Lit.wf at h
  rw [Bool.and_eq_true, decide_eq_true_eq, decide_eq_true_eq] at h
  exact h.1
theorem Act.wf_val {l : List Act} (w : ∀ y ∈ l, Act.wf y) : ∀ x ∈ l, 0 ≤ x.Value := fun x hx => u64_nonneg (w x hx).2.2.2
theorem arr_nonneg {xs : List Int} {n : Nat} (h : arrW .u64 n xs) (i : Nat) : 0 ≤ xs.getD i 0 := by
  rw [List.getD_eq_getElem?_getD]
  by_cases hi : i < xs.length
  · rw [List.getElem?_eq_getElem hi]
    exact u64_nonneg (h.2 _ (List.getElem_mem hi))
  · rw [List.getElem?_eq_none (by omega)]; exact Int.le_refl 0
theorem head_Sound_l0s_eq {h : List Int} (w : arrW .u64 12 h) : ∀ (n i : Nat), head_Sound_l0s h n i = podestaref01_Head_l0s h n i
  | 0, i => rfl
  | n + 1, i => by
      rw [head_Sound_l0s, podestaref01_Head_l0s, head_Sound_l0s_eq w n (i + 1), refFits_eq]
      unfold fitsH
      rw [decide_eq_true (arr_nonneg w i), Bool.true_and]
theorem head_Sound_eq {h : List Int} (w : arrW .u64 12 h) : head_Sound h = podestaref01_Head h := by
  rw [head_Sound, podestaref01_Head, head_Sound_l0s_eq w]
theorem textOk_false (c : Cube) : ∀ (r i : Nat), textOk c r i false = false
  | 0, _ => rfl
  | r + 1, i => by
      rw [textOk]
      cases badAt c i <;> exact textOk_false c r (i + 1)
theorem cube_Sound_l0s_eq (c : Cube) : ∀ (r i : Nat), cube_Sound_l0s c r i = if textOk c r i true then .inl () else .inr false
  | 0, _ => rfl
  | r + 1, i => by
      rw [cube_Sound_l0s, cube_Sound_l0s_eq c r (i + 1), textOk]
      show (bif badAt c i then _ else _) = _
      cases badAt c i
      · rfl
      · rw [cond_true, cond_true, textOk_false]; rfl
theorem cube_Sound_eq {c : Cube} (w : Cube.wf c) : cube_Sound c = podestaref01_Cube c := by
  rw [cube_Sound, podestaref01_Cube, cube_Sound_l0s_eq]
  unfold textT
  rw [head_Sound_eq w.2]
  cases podestaref01_Head c.Care
  · rw [textOk_false]; rfl
  · cases textOk c 12 0 true <;> rfl
theorem min3_nonneg (a b c : Int) : decide ((if c < (if b < a then b else a) then c else (if b < a then b else a)) ≥ 0) = ((decide (a ≥ 0) && decide (b ≥ 0)) && decide (c ≥ 0)) := by
  rw [Bool.eq_iff_iff]
  simp only [Bool.and_eq_true, decide_eq_true_eq]
  (repeat' split) <;> omega
theorem rule_Sound_eq {x : Rule} (w : Rule.wf x) : rule_Sound x = podestaref04_Rule x := by
  rw [rule_Sound, podestaref04_Rule, cube_Sound_eq w.1, act_Sound_eq (Act.wf_val w.2.2.1), refActs_eq, min3_nonneg]
  have e : ∀ a b, rule_span a b = podestaref04_span a b := fun _ _ => rfl
  simp only [e, Bool.and_assoc]
theorem Order_l0s_eq : ∀ (n i : Nat) (a b : List Int), a.length = i + n → b.length = i + n → (match podestaref01_Order_l0s a b n i with | .inl _ => (0 : Int) | .inr v => v) = cmpL cmp_Compare_uint64 (a.drop i) (b.drop i)
  | 0, i, a, b, ha, hb => by
      rw [List.drop_eq_nil_of_le (by omega), List.drop_eq_nil_of_le (by omega)]; rfl
  | n + 1, i, a, b, ha, hb => by
      have h1 : i < a.length := by omega
      have h2 : i < b.length := by omega
      rw [List.drop_eq_getElem_cons h1, List.drop_eq_getElem_cons h2, cmpL_cons, ← Order_l0s_eq n (i + 1) a b (by omega) (by omega), podestaref01_Order_l0s]
      have ea : a.getD i 0 = a[i] := by rw [List.getD_eq_getElem?_getD, List.getElem?_eq_getElem h1]; rfl
      have eb : b.getD i 0 = b[i] := by rw [List.getD_eq_getElem?_getD, List.getElem?_eq_getElem h2]; rfl
      have hc : cmp_Compare_uint64 a[i] b[i] = if a[i] < b[i] then -1 else if a[i] > b[i] then 1 else 0 := by
        have h : ∀ z, cmp_isNaN_uint64 z = false := fun z => by simp [cmp_isNaN_uint64]
        rw [cmp_Compare_uint64, h, h]
        by_cases h1 : a[i] < b[i]
        · simp [h1]
        · by_cases h2 : a[i] > b[i]
          · simp [h1, h2]
          · simp [h1, h2]
      rw [ea, eb, hc]
      by_cases q1 : a[i] < b[i]
      · simp [q1]
      · by_cases q2 : a[i] > b[i]
        · simp [q1, q2]
        · simp [q1, q2]
theorem Order_eq {a b : List Int} (ha : a.length = 12) (hb : b.length = 12) : podestaref01_Order a b = cmpL cmp_Compare_uint64 a b := by
  rw [podestaref01_Order]
  have h := Order_l0s_eq 12 0 a b (by omega) (by omega)
  rw [List.drop_zero, List.drop_zero] at h
  rw [← h]
  cases podestaref01_Order_l0s a b 12 0 <;> rfl
theorem refBefore_eq {a b : Rule} (wa : Rule.wf a) (wb : Rule.wf b) : podestaref04_Before a b = rule_Before a b := by
  rw [rule_Before, rule_compare, podestaref04_Before, podestaref01_Compare, cube_Compare, cmp_Or_two, head_Compare_eq, head_Compare_eq, Order_eq wa.1.2.1 wb.1.2.1, Order_eq wa.1.1.1 wb.1.1.1]
  cases h : a.Prio != b.Prio
  · simp only [cond_false]
    by_cases q : cmpL cmp_Compare_uint64 a.Match.Care b.Match.Care = 0
    · simp [q]
    · have : (cmpL cmp_Compare_uint64 a.Match.Care b.Match.Care != 0) = true := by simp [q]
      rw [this, cond_true, if_neg q]
  · simp only [cond_true]
    cases decide (a.Prio > b.Prio) <;> rfl
theorem refTable_l0s_eq (all : List Rule) (w : ∀ y ∈ all, Rule.wf y) : ∀ (l : List Rule) (i : Nat), all.drop i = l → podestaref04_Table_l0s all l i = rule_Table_l0s all l i
  | [], i, _ => by rw [podestaref04_Table_l0s, rule_Table_l0s]
  | x :: l, i, h => by
      have hlt : i < all.length := by
        rcases Nat.lt_or_ge i all.length with q | q
        · exact q
        · rw [List.drop_eq_nil_of_le q] at h; cases h
      rw [List.drop_eq_getElem_cons hlt] at h
      injection h with h1 h2
      have hx : x ∈ all := by rw [← h1]; exact List.getElem_mem hlt
      rw [podestaref04_Table_l0s, rule_Table_l0s, refTable_l0s_eq all w l (i + 1) h2, rule_Sound_eq (w x hx)]
      cases podestaref04_Rule x
      · rfl
      · simp only [Bool.not_true, cond_false]
        cases decide (((i : Nat) : Int) > 0)
        · rfl
        · simp only [cond_true]
          cases hq : ixO all (IntKind.i64.wrap (((i : Nat) : Int) - 1)) with
          | none => rfl
          | some y =>
            have hy : y ∈ all := by
              unfold ixO at hq
              split at hq
              · exact List.mem_of_getElem? hq
              · cases hq
            simp only [Option.bind_some, refBefore_eq (w y hy) (w x hx)]
theorem refTable_raw_eq (l : List Rule) (w : ∀ y ∈ l, Rule.wf y) (h : l.length ≤ 1000000000000000) : podestaref04_Table_raw l = some (tableR l) := by
  rw [podestaref04_Table_raw, refTable_l0s_eq l w l 0 rfl, rule_Table_l0s_eq l h l 0 rfl, if_pos rfl]
  unfold tableR
  cases tableF none l <;> rfl

end Go.Proofs.Ytadolbhmdimbkaa

set_option linter.unusedVariables false
set_option linter.unusedSimpArgs false
set_option maxRecDepth 100000
set_option maxHeartbeats 4000000
namespace Go.Proofs.Ytadolbhmdimbkaa
open Go.Sh
/-! ### podestaref04.Sort: function 28 -/
noncomputable def podestaref04_Sort_F : Go.Sh.Fn := ⟨28, bodyOf Try.f28, 70⟩
def podestaref04_Sort_l1 (out : List Rule) (x : Rule) : Nat → Int → Option (Int)
  | 0, _ => none
  | m + 1, k1 =>
    (bif (decide (k1 < (((List.map Rule.av out).length : Nat) : Int))) then
    (ixO out k1).bind fun x1 =>
    (bif (podestaref04_Before x1 x) then
      podestaref04_Sort_l1 out x m (IntKind.i64.wrap (k1 + 1))
    else
      some k1)
  else
    some k1)
theorem podestaref04_Sort_l1_walk (q1 : Nat) (l : List Rule) (i : Nat) (out : List Rule) (x : Rule) (hv_i : ixO l ((i : Nat) : Int) = some x) (f_l : Bool) (r : (List Rule)) (c0 : Ctx) (hc0 : c0.m.length = 0) (res : Int) (J : AX Try.prog tab podestaref04_Sort_F c0 (Rp tab.S c0 (.sl 34 (List.map Rule.av r) false) []) (some ⟨[.code [1, 1, 0, 1, 0, 0, 1, 0, 0, 1, 1, 1], .blk 1, .code [1, 1, 0, 1, 0, 0, 1, 1], .loop [1, 1, 0, 1, 0], .blk 0, .code [1, 1, 1]], [(0, .sl 34 (List.map Rule.av l) f_l), (3, .sl 34 (List.map Rule.av out) false), (4, .sc (.int .i64 ((i : Nat) : Int))), (5, .sc (.int .i64 res))], []⟩)) :
    ∀ (m : Nat) (k1 : Int) (H : podestaref04_Sort_l1 out x m k1 = some res), AX Try.prog tab podestaref04_Sort_F c0 (Rp tab.S c0 (.sl 34 (List.map Rule.av r) false) []) (some ⟨[.code [1, 1, 0, 1, 0, 0, 1, 0, 0, 1, 1, 0, 0, 0], .loop [1, 1, 0, 1, 0, 0, 1, 0, 0, 1, 1, 0, 0], .blk 2, .code [1, 1, 0, 1, 0, 0, 1, 0, 0, 1, 1, 1], .blk 1, .code [1, 1, 0, 1, 0, 0, 1, 1], .loop [1, 1, 0, 1, 0], .blk 0, .code [1, 1, 1]], [(0, .sl 34 (List.map Rule.av l) f_l), (3, .sl 34 (List.map Rule.av out) false), (4, .sc (.int .i64 ((i : Nat) : Int))), (5, .sc (.int .i64 k1))], []⟩) := by
  intro m
  induction m with
  | zero => intro k1 H; cases H
  | succ m ih =>
    intro k1 H
    rw [podestaref04_Sort_l1] at H
    refine .sg 2 [0,3,4,5] (.rg (.sg 5 [0,3,4,5,23] (.sp 23 (decide (k1 < (((List.map Rule.av out).length : Nat) : Int))) H (fun hb H => ?_) (fun hb H => ?_))))
    ·
      refine .sg 2 [0,3,4,5,23,24,25] (bndO H fun x1 hv H => (.xi [0,3,4,5,23,26] Rule.av hv (.sg 3 [0,3,4,5,23,27,28,29] (.xi [0,3,4,5,23,27,30] Rule.av hv_i (.sg 1 [0,3,4,5,23,27,31] (.cp [0,3,4,5,23,32] (podestaref04_Before_calls x1 x) (.sg 1 [0,3,4,5,33] (.dn (.cd (podestaref04_Before x1 x) H (fun hb H => ?_) (fun hb H => ?_))))))))))
      ·
        exact .sg 4 [0,3,4,5] (.kp [0,3,4,5] (.into (.to (ih (IntKind.i64.wrap (k1 + 1)) H))))
      ·
        refine .sg 1 [0,3,4,5] (.kp [0,3,4,5] ?_)
        obtain rfl := Option.some.inj H
        exact .to J
    ·
      refine .sg 10 [0,3,4,5,33] (.dn (.sg 2 [0,3,4,5] (.kp [0,3,4,5] ?_)))
      obtain rfl := Option.some.inj H
      exact .to J
def podestaref04_Sort_l0s (q1 : Nat) : List Rule → List Rule → Option ((List Rule))
  | [], out =>
    some out
  | x :: rest, out =>
    (bif (!(podestaref04_Rule x)) then
      podestaref04_Sort_l0s q1 rest out
    else
      (podestaref04_Sort_l1 out x q1 0).bind fun v =>
      (sliceO out (some v) none none).bind fun x1 =>
      fitO (([] : List Rule).length + x1.length) 272 (
      (bif (decide ((((List.map Rule.av (([] : List Rule) ++ x1)).length : Nat) : Int) > 0)) then
        (ixO (([] : List Rule) ++ x1) 0).bind fun x2 =>
        (bif (podestaref04_Key x2 x) then
          (sliceO (([] : List Rule) ++ x1) (some 1) none none).bind fun x3 =>
          (sliceO out none (some v) none).bind fun x4 =>
          fitO (([] : List Rule).length + x4.length) 272 (
          fitO ((([] : List Rule) ++ x4).length + [x].length) 272 (
          fitO (((([] : List Rule) ++ x4) ++ [x]).length + x3.length) 272 (
          podestaref04_Sort_l0s q1 rest (((([] : List Rule) ++ x4) ++ [x]) ++ x3))))
        else
          (sliceO out none (some v) none).bind fun x5 =>
          fitO (([] : List Rule).length + x5.length) 272 (
          fitO ((([] : List Rule) ++ x5).length + [x].length) 272 (
          fitO (((([] : List Rule) ++ x5) ++ [x]).length + (([] : List Rule) ++ x1).length) 272 (
          podestaref04_Sort_l0s q1 rest (((([] : List Rule) ++ x5) ++ [x]) ++ (([] : List Rule) ++ x1))))))
      else
        (sliceO out none (some v) none).bind fun x6 =>
        fitO (([] : List Rule).length + x6.length) 272 (
        fitO ((([] : List Rule) ++ x6).length + [x].length) 272 (
        fitO (((([] : List Rule) ++ x6) ++ [x]).length + (([] : List Rule) ++ x1).length) 272 (
        podestaref04_Sort_l0s q1 rest (((([] : List Rule) ++ x6) ++ [x]) ++ (([] : List Rule) ++ x1))))))))
theorem podestaref04_Sort_l0_walk (q1 : Nat) (l : List Rule) (f_l : Bool) (r : (List Rule)) (c0 : Ctx) (hc0 : c0.m.length = 0) (res : (List Rule)) (J : AX Try.prog tab podestaref04_Sort_F c0 (Rp tab.S c0 (.sl 34 (List.map Rule.av r) false) []) (some ⟨[.code [1, 1, 1]], [(3, .sl 34 (List.map Rule.av res) false)], []⟩)) :
    ∀ (rest : List Rule) (i : Nat) (z : Int) (hI : z = ((i : Nat) : Int)) (hd : l.drop i = rest) (out : List Rule) (H : podestaref04_Sort_l0s q1 rest out = some res), AX Try.prog tab podestaref04_Sort_F c0 (Rp tab.S c0 (.sl 34 (List.map Rule.av r) false) []) (some ⟨[.code [1, 1, 0, 1, 0, 0], .loop [1, 1, 0, 1, 0], .blk 0, .code [1, 1, 1]], [(0, .sl 34 (List.map Rule.av l) f_l), (3, .sl 34 (List.map Rule.av out) false), (4, .sc (.int .i64 z))], []⟩) := by
  intro rest
  induction rest with
  | nil =>
    intro i z hI hd out H
    subst hI
    rw [podestaref04_Sort_l0s] at H
    refine .facts 0 fun hf => ?_
    have hlen : l.length ≤ 9223372036854775807 := by have hq := len_ok hf.2.1; rw [List.length_map] at hq; exact hq
    have hge : l.length ≤ i := List.drop_eq_nil_iff.1 hd
    have hc : (decide (((i : Nat) : Int) < (((List.map Rule.av l).length : Nat) : Int))) = false := by rw [List.length_map]; exact decide_eq_false (by omega)
    refine .sg 3 [0,3,4,10] (.cdF hc (.sg 1 [3] (.kp [3] ?_)))
    obtain rfl := Option.some.inj H
    exact .to J
  | cons x rest ih =>
    intro i z hI hd out H
    subst hI
    rw [podestaref04_Sort_l0s] at H
    refine .facts 0 fun hf => ?_
    have hlen : l.length ≤ 9223372036854775807 := by have hq := len_ok hf.2.1; rw [List.length_map] at hq; exact hq
    obtain ⟨hlt, hv_i, hd2⟩ := drop_cons hd
    have hc : (decide (((i : Nat) : Int) < (((List.map Rule.av l).length : Nat) : Int))) = true := by rw [List.length_map]; exact decide_eq_true (by omega)
    have hw : IntKind.i64.wrap (((i : Nat) : Int) + 1) = ((i + 1 : Nat) : Int) := wrapI_succ (by omega)
    refine .sg 3 [0,3,4,10] (.cdT hc (.sg 5 [0,3,4] (.rg (.sg 2 [0,3,4,13,14] (.xi [0,3,4,15] Rule.av hv_i (.sg 1 [0,3,4,16] (.cp [0,3,4,17] (podestaref04_Rule_calls x) (.sg 1 [0,3,4,18] (.dn (.cd (!(podestaref04_Rule x)) H (fun hb H => ?_) (fun hb H => ?_)))))))))))
    ·
      exact .sg 2 [0,3,4] (.kp [0,3,4] (.into (.cl (ih (i + 1) _ hw hd2 out H))))
    ·
      refine .sg 5 [0,3,4,5] ?_
      refine bndO H fun v hv H => (.into (.to (podestaref04_Sort_l1_walk q1 l i out x hv_i f_l r c0 hc0 v ?_ q1 0 hv)))
      refine .sg 1 [0,3,4,5] (.rg (.sg 3 [0,3,4,5,36,37,38] (bndO H fun x1 hv H => (.so [0,3,4,5,36,39] Rule.av hv (fitH H fun hfit H => (.ab [0,3,4,5,40] Rule.av hfit rfl (.sg 1 [0,3,4,5,6] (.dn (.sg 2 [0,3,4,5,6] (.rg (.sg 4 [0,3,4,5,6,44] (.sp 44 (decide ((((List.map Rule.av (([] : List Rule) ++ x1)).length : Nat) : Int) > 0)) H (fun hb H => ?_) (fun hb H => ?_)))))))))))))
      ·
        refine .sg 1 [0,3,4,5,6,44,45] (bndO H fun x2 hv_x2 H => (.xo [0,3,4,5,6,44,46] (ixO_req hv_x2 Rule.av) (.lo [0,3,4,5,6,44,47] (ixO_map hv_x2 Rule.av).2 (.sg 2 [0,3,4,5,6,44,47,48,49] (.xi [0,3,4,5,6,44,47,50] Rule.av hv_i (.sg 1 [0,3,4,5,6,44,47,51] (.cp [0,3,4,5,6,44,52] (podestaref04_Key_calls x2 x) (.sg 1 [0,3,4,5,6,53] (.dn (.cd (podestaref04_Key x2 x) H (fun hb H => ?_) (fun hb H => ?_)))))))))))
        ·
          exact .rg (.sg 1 [0,3,4,5,54] (bndO H fun x3 hv H => (.gso [0,3,4,5,55] [0] Rule.av hv (.sg 1 [0,3,4,5,6] (.dn (.rg (.sg 3 [0,4,6,56,57,58] (bndO H fun x4 hv H => (.so [0,4,6,56,59] Rule.av hv (fitH H fun hfit H => (.ab [0,4,6,60] Rule.av hfit rfl (.sg 2 [0,4,6,60,61,62] (.xi [0,4,6,60,63] Rule.av hv_i (.sg 2 [0,4,6,60,65] (fitH H fun hfit H => (.ap [0,4,6,66] Rule.av hfit (.sg 1 [0,4,66,67] (fitH H fun hfit H => (.ap [0,4,68] Rule.av hfit (.sg 1 [0,3,4] (.dn (.sg 2 [0,3,4] (.tl hc0 [] [0,3,4] (.into (.cl (ih (i + 1) _ hw hd2 (((([] : List Rule) ++ x4) ++ [x]) ++ x3) H))))))))))))))))))))))))))
        ·
          exact .sg 1 [0,3,4,5,6] (.rg (.sg 3 [0,4,6,56,57,58] (bndO H fun x5 hv H => (.so [0,4,6,56,59] Rule.av hv (fitH H fun hfit H => (.ab [0,4,6,60] Rule.av hfit rfl (.sg 2 [0,4,6,60,61,62] (.xi [0,4,6,60,63] Rule.av hv_i (.sg 2 [0,4,6,60,65] (fitH H fun hfit H => (.ap [0,4,6,66] Rule.av hfit (.sg 1 [0,4,66,67] (fitH H fun hfit H => (.ap [0,4,68] Rule.av hfit (.sg 1 [0,3,4] (.dn (.sg 2 [0,3,4] (.tl hc0 [] [0,3,4] (.into (.cl (ih (i + 1) _ hw hd2 (((([] : List Rule) ++ x5) ++ [x]) ++ (([] : List Rule) ++ x1)) H)))))))))))))))))))))
      ·
        exact .sg 9 [0,3,4,5,6,53] (.dn (.sg 2 [0,3,4,5,6] (.rg (.sg 3 [0,4,6,56,57,58] (bndO H fun x6 hv H => (.so [0,4,6,56,59] Rule.av hv (fitH H fun hfit H => (.ab [0,4,6,60] Rule.av hfit rfl (.sg 2 [0,4,6,60,61,62] (.xi [0,4,6,60,63] Rule.av hv_i (.sg 2 [0,4,6,60,65] (fitH H fun hfit H => (.ap [0,4,6,66] Rule.av hfit (.sg 1 [0,4,66,67] (fitH H fun hfit H => (.ap [0,4,68] Rule.av hfit (.sg 1 [0,3,4] (.dn (.sg 2 [0,3,4] (.tl hc0 [] [0,3,4] (.into (.cl (ih (i + 1) _ hw hd2 (((([] : List Rule) ++ x6) ++ [x]) ++ (([] : List Rule) ++ x1)) H)))))))))))))))))))))))

def podestaref04_Sort_raw (q1 : Nat) (l : List Rule) : Option ((List Rule)) :=
  (podestaref04_Sort_l0s q1 l ([] : List Rule)).bind fun v =>
  some v
theorem podestaref04_Sort_walk (q1 : Nat) (l : List Rule) (f_l : Bool) (r : (List Rule)) (H : podestaref04_Sort_raw q1 l = some r) : ACalls Try.prog tab.S 28 [.sl 34 (List.map Rule.av l) f_l] [] (.sl 34 (List.map Rule.av r) false) [] := by
  refine .of_AX podestaref04_Sort_F Try.func28 fun c0 hc0 => ?_
  rw [podestaref04_Sort_raw] at H
  refine .sg 8 [0,3,4] (.wk 3 [(34, false)] (.kp [0,3,4] ?_))
  refine bndO H fun v hv H => (.into (.to (podestaref04_Sort_l0_walk q1 l f_l r c0 hc0 v ?_ l 0 _ rfl rfl ([] : List Rule) hv)))
  refine .sg 2 [2] ?_
  obtain rfl := Option.some.inj H
  exact .ret Try.func28 hc0

def refPut (out : List Rule) (x : Rule) : List Rule :=
  bif !(podestaref04_Rule x) then out else
  out.takeWhile (fun y => podestaref04_Before y x) ++ x :: (match out.dropWhile (fun y => podestaref04_Before y x) with | [] => [] | y :: r => bif podestaref04_Key y x then r else y :: r)
theorem tw_len {α : Type} (p : α → Bool) (l : List α) : l.take (l.takeWhile p).length = l.takeWhile p ∧ l.drop (l.takeWhile p).length = l.dropWhile p := by
  have h := List.takeWhile_append_dropWhile (p := p) (l := l)
  constructor
  · conv => lhs; rw [← h]
    rw [List.take_left' (by rw [h])]
  · conv => lhs; rw [← h]
    rw [List.drop_left' (by rw [h])]
theorem refSort_l1_eq (out : List Rule) (x : Rule) (ho : out.length ≤ 1000000) : ∀ (m k : Nat), k ≤ out.length → out.length - k < m → podestaref04_Sort_l1 out x m (k : Int) = some ((k + ((out.drop k).takeWhile (fun y => podestaref04_Before y x)).length : Nat) : Int)
  | 0, k, _, h => absurd h (by omega)
  | m + 1, k, h1, h2 => by
      rw [podestaref04_Sort_l1, List.length_map]
      by_cases hk : k < out.length
      · rw [decide_eq_true (by omega), cond_true, ixO_lt hk, Option.bind_some, List.drop_eq_getElem_cons hk, List.takeWhile_cons, wrap_succ (by omega), refSort_l1_eq out x ho m (k + 1) (by omega) (by omega)]
        cases podestaref04_Before out[k] x
        · rfl
        · simp only [cond_true, if_true, List.length_cons]
          congr 1; omega
      · rw [decide_eq_false (by omega), cond_false, List.drop_eq_nil_of_le (by omega)]; rfl
theorem sliceO_from {α : Type} (A : List α) {n : Nat} (h : n ≤ A.length) : sliceO A (some ((n : Nat) : Int)) none none = some (A.drop n) := by
  unfold sliceO
  simp only [Option.getD_some, Option.getD_none]
  split
  · simp only [Int.toNat_natCast]
    rw [List.take_of_length_le (by rw [List.length_drop]; omega)]
  · rename_i hc
    exact absurd ⟨by omega, by omega, by omega, Or.inl trivial⟩ hc
theorem sliceO_to {α : Type} (A : List α) {n : Nat} (h : n ≤ A.length) : sliceO A none (some ((n : Nat) : Int)) none = some (A.take n) := by
  unfold sliceO
  simp only [Option.getD_some, Option.getD_none]
  split
  · simp
  · rename_i hc
    exact absurd ⟨by omega, by omega, by omega, Or.inl trivial⟩ hc
theorem refPut_len (out : List Rule) (x : Rule) : (refPut out x).length ≤ out.length + 1 := by
  have h := congrArg List.length (List.takeWhile_append_dropWhile (p := fun y => podestaref04_Before y x) (l := out))
  rw [List.length_append] at h
  unfold refPut
  cases podestaref04_Rule x
  · simp only [Bool.not_false, cond_true]; omega
  · simp only [Bool.not_true, cond_false, List.length_append, List.length_cons]
    cases hd : out.dropWhile (fun y => podestaref04_Before y x) with
    | nil => rw [hd] at h; simp only [List.length_nil] at h ⊢; omega
    | cons y r =>
      rw [hd] at h
      rw [List.length_cons] at h
      cases hk : podestaref04_Key y x
      · simp only [hk, cond_false, List.length_cons]; omega
      · simp only [hk, cond_true]; omega
theorem refSort_l0s_eq (q : Nat) : ∀ (l out : List Rule), out.length + l.length < q → q ≤ 100000 → podestaref04_Sort_l0s q l out = some (l.foldl refPut out)
  | [], out, _, _ => by rw [podestaref04_Sort_l0s]; rfl
  | x :: l, out, h, hq => by
      rw [List.length_cons] at h
      have hp := refPut_len out x
      have ih := refSort_l0s_eq q l (refPut out x) (by omega) hq
      rw [podestaref04_Sort_l0s, List.foldl_cons, ← ih]
      obtain ⟨t1, t2⟩ := tw_len (fun y => podestaref04_Before y x) out
      have hl1 := refSort_l1_eq out x (by omega) q 0 (by omega) (by omega)
      rw [List.drop_zero, Nat.zero_add, show ((0 : Nat) : Int) = 0 from rfl] at hl1
      have hn : (out.takeWhile (fun y => podestaref04_Before y x)).length ≤ out.length := (List.takeWhile_sublist _).length_le
      have hdl : (out.dropWhile (fun y => podestaref04_Before y x)).length ≤ out.length := (List.dropWhile_sublist _).length_le
      cases hr : podestaref04_Rule x
      · simp only [Bool.not_false, cond_true]
        unfold refPut
        rw [hr]; rfl
      · simp only [Bool.not_true, cond_false]
        have hput : refPut out x = out.takeWhile (fun y => podestaref04_Before y x) ++ x :: (match out.dropWhile (fun y => podestaref04_Before y x) with | [] => [] | y :: r => bif podestaref04_Key y x then r else y :: r) := by
          unfold refPut; rw [hr]; rfl
        rw [hput, hl1, Option.bind_some, sliceO_from out hn, Option.bind_some, sliceO_to out hn, t1, t2]
        simp only [nil_app, List.length_map, Option.bind_some, List.length_nil, Nat.zero_add]
        rw [fitO_eq (by omega)]
        generalize out.takeWhile (fun y => podestaref04_Before y x) = A at *
        generalize out.dropWhile (fun y => podestaref04_Before y x) = B at *
        cases B with
        | nil =>
          simp only [List.length_nil]
          rw [show decide (((0 : Nat) : Int) > 0) = false from rfl, cond_false, fitO_eq (by omega), fitO_eq (by rw [List.length_cons, List.length_nil]; omega), fitO_eq (by rw [List.length_append, List.length_cons, List.length_nil]; omega), List.append_assoc]
          rfl
        | cons y r =>
          rw [List.length_cons] at hdl
          rw [decide_eq_true (show (((y :: r).length : Nat) : Int) > 0 by rw [List.length_cons]; omega), cond_true]
          rw [show ixO (y :: r) 0 = some y from rfl, Option.bind_some]
          rw [show sliceO (y :: r) (some 1) none none = some r by rw [show (1 : Int) = ((1 : Nat) : Int) from rfl, sliceO_from (y :: r) (by rw [List.length_cons]; omega)]; rfl, Option.bind_some]
          show _ = podestaref04_Sort_l0s q l (A ++ x :: (bif podestaref04_Key y x then r else y :: r))
          cases podestaref04_Key y x
          · rw [cond_false, cond_false, fitO_eq (by omega), fitO_eq (by rw [List.length_cons, List.length_nil]; omega), fitO_eq (by rw [List.length_append, List.length_cons, List.length_nil, List.length_cons]; omega), List.append_assoc]
            rfl
          · rw [cond_true, cond_true, fitO_eq (by omega), fitO_eq (by rw [List.length_cons, List.length_nil]; omega), fitO_eq (by rw [List.length_append, List.length_cons, List.length_nil]; omega), List.append_assoc]
            rfl
def refSortO (l : List Rule) : Option (List Rule) := if l.length ≤ 10000 then some (l.foldl refPut []) else none
theorem podestaref04_Sort_ok (l : List Rule) (f : Bool) (x : List Rule) (h : refSortO l = some x) : ACalls Try.prog tab.S 28 [.sl 34 (List.map Rule.av l) f] [] (.sl 34 (List.map Rule.av x) false) [] := by
  unfold refSortO at h
  split at h
  · rename_i hl
    refine podestaref04_Sort_walk (l.length + 1) l f x ?_
    rw [podestaref04_Sort_raw, refSort_l0s_eq (l.length + 1) l [] (by rw [List.length_nil]; omega) (by omega)]
    exact h
  · cases h
theorem refKey_eq (a b : Rule) : podestaref04_Key a b = decide (a.key = b.key) := by rw [← Key_key]; rfl
theorem refPut_eq {out : List Rule} {x : Rule} (hs : Srt out) (w : ∀ y ∈ out, Rule.wf y) (wx : Rule.wf x) : refPut out x = putR out x := by
  have hb : ∀ y ∈ out, (podestaref04_Before y x = true ↔ RLt y x) := fun y hy => by
    rw [refBefore_eq (w y hy) wx, Before_key, decide_eq_true_eq]; rfl
  unfold refPut
  rw [← rule_Sound_eq wx]
  cases hS : rule_Sound x
  · rw [putR_not hS]; rfl
  · simp only [Bool.not_true, cond_false]
    obtain ⟨A, mid, B, e1, e2, e3, e4, e5⟩ := putR_split hs hS
    rw [e2]
    subst e1
    have hA : ∀ a ∈ A, podestaref04_Before a x = true := fun a ha => (hb a (by simp [ha])).2 (e3 a ha)
    rw [List.takeWhile_append_of_pos hA, List.dropWhile_append_of_pos hA]
    obtain ⟨p1, p2, p3⟩ := List.pairwise_append.1 hs
    cases mid with
    | nil =>
      cases B with
      | nil => simp
      | cons b B =>
        have hf : podestaref04_Before b x = false := by
          rw [Bool.eq_false_iff]
          intro q
          exact RLt.asymm (e4 b (by simp)) ((hb b (by simp)).1 q)
        have hk : podestaref04_Key b x = false := by
          rw [refKey_eq, decide_eq_false_iff_not]
          intro q
          exact RLt.irr x b q.symm (e4 b (by simp))
        simp [List.takeWhile_cons, List.dropWhile_cons, hf, hk]
    | cons y mid =>
      have hy := e5 y (by simp)
      have hf : podestaref04_Before y x = false := by
        rw [Bool.eq_false_iff]
        intro q
        exact RLt.irr y x hy ((hb y (by simp)).1 q)
      have hk : podestaref04_Key y x = true := by rw [refKey_eq, decide_eq_true_eq]; exact hy
      have hm : mid = [] := by
        cases mid with
        | nil => rfl
        | cons z mid =>
          have h1 : RLt y z := (List.pairwise_cons.1 p2).1 z (by simp)
          exact absurd h1 (RLt.irr y z (hy.trans (e5 z (by simp)).symm))
      subst hm
      simp [List.takeWhile_cons, List.dropWhile_cons, hf, hk]
theorem refSort_fold : ∀ (l out : List Rule), Srt out → (∀ y ∈ out, Rule.wf y) → (∀ y ∈ l, Rule.wf y) → l.foldl refPut out = l.foldl putR out
  | [], _, _, _, _ => rfl
  | x :: l, out, hs, w, wl => by
      rw [List.foldl_cons, List.foldl_cons, refPut_eq hs w (wl x (by simp))]
      exact refSort_fold l (putR out x) (putR_srt hs x) (fun y hy => by
        rcases putR_mem hs hy with q | ⟨q, _⟩
        · exact w y q
        · rw [q]; exact wl x (by simp)) (fun y hy => wl y (by simp [hy]))
theorem refSortO_eq {l : List Rule} (w : ∀ y ∈ l, Rule.wf y) (h : l.length ≤ 10000) : refSortO l = some (sortR l) := by
  unfold refSortO sortR
  rw [if_pos h, refSort_fold l [] List.Pairwise.nil (by simp) w]

end Go.Proofs.Ytadolbhmdimbkaa

set_option linter.unusedVariables false
set_option linter.unusedSimpArgs false
set_option maxRecDepth 100000
set_option maxHeartbeats 4000000
namespace Go.Proofs.Ytadolbhmdimbkaa
open Go.Sh
/-! ### podestalaw05.RuleTables: function 9 -/
noncomputable def podestalaw05_RuleTables_F : Go.Sh.Fn := ⟨9, bodyOf Try.f9, 41⟩
def podestalaw05_RuleTables_raw (l : List Rule) : Option (Bool) :=
  (bif (decide ((((List.map Rule.av l).length : Nat) : Int) > 60)) then
    some true
  else
    (podestaref04_Table_raw l).bind fun x =>
    (bif ((tableR l) == x) then
      (refSortO l).bind fun x1 =>
      some ((((zipAll podestaref04_Equal (sortR l) x1) && (tableR (sortR l))) && (rule_Same (sortR (sortR l)) (sortR l))) && (rule_Same l l))
    else
      some false))
theorem podestalaw05_RuleTables_walk (l : List Rule) (f_l : Bool) (r : Bool) (H : podestalaw05_RuleTables_raw l = some r) : ACalls Try.prog tab.S 9 [.sl 34 (List.map Rule.av l) f_l] [] (.sc (.bool r)) [] := by
  refine .of_AX podestalaw05_RuleTables_F Try.func9 fun c0 hc0 => ?_
  rw [podestalaw05_RuleTables_raw] at H
  refine .sg 5 [0,6] (.cd (decide ((((List.map Rule.av l).length : Nat) : Int) > 60)) H (fun hb H => ?_) (fun hb H => ?_))
  ·
    refine .sg 1 [] (.rg (.cp [7] (podestalaw05_answers_ok) (.sg 1 [2] (.dn ?_))))
    obtain rfl := Option.some.inj H
    exact .ret Try.func9 hc0
  ·
    refine .sg 2 [0] (.rg (.sg 1 [0,8] (.cp [0,9] (rule_Copy_ok l f_l) (.cp [0,10] (rule_Sort_ok l true) (.sg 1 [0,3] (.dn (.sg 1 [0,3] (.rg (.cp [0,3,11] (podestalaw05_answers_ok) (.sg 2 [0,3,12,13] (.cp [0,3,12,14] (rule_Table_ok l f_l) (.sg 1 [0,3,12,14,15] (bndO H fun x hv H => (.cp [0,3,12,14,16] (podestaref04_Table_walk l f_l x hv) (.sg 3 [0,3,19] (.sp 19 ((tableR l) == x) H (fun hb H => ?_) (fun hb H => ?_)))))))))))))))))
    ·
      refine .sg 2 [0,3,19,20,21] (bndO H fun x1 hv H => (.cp [0,3,19,20,22] (podestaref04_Sort_ok l f_l x1 hv) (.cp [0,3,19,23] (podestaref04_Same_ok (sortR l) x1 true false) (.sg 2 [0,3,25] (.mm 25 (zipAll podestaref04_Equal (sortR l) x1) 3 [.pure, .pure, .pure] [0, 3, 28] 28 (fun z => .sc (.bool (z && (tableR (sortR l))))) ?J1 (fun hb J => ?ht1) (fun hb J => ?hf1))))))
      case ht1 =>
        exact .sg 1 [0,3,25,26] (.cp [0,3,25,27] (rule_Table_ok (sortR l) true) (.sg 1 [0,3,28] (.cl J)))
      case hf1 =>
        exact .sg 3 [0,3,28] (.cl J)
      refine .sg 1 [0,3,29] (.mm 29 ((zipAll podestaref04_Equal (sortR l) x1) && (tableR (sortR l))) 5 [.pure, .pure, .pure, .pure, .pure] [0, 34] 34 (fun z => .sc (.bool (z && (rule_Same (sortR (sortR l)) (sortR l))))) ?J2 (fun hb J => ?ht2) (fun hb J => ?hf2))
      case ht2 =>
        exact .sg 1 [0,3,29,30] (.cp [0,3,29,31] (rule_Sort_ok (sortR l) true) (.sg 1 [0,29,31,32] (.cp [0,29,33] (rule_Same_calls (sortR (sortR l)) (sortR l) true true) (.sg 1 [0,34] (.cl J)))))
      case hf2 =>
        exact .sg 5 [0,34] (.cl J)
      refine .sg 1 [0,35] (.mm 35 (((zipAll podestaref04_Equal (sortR l) x1) && (tableR (sortR l))) && (rule_Same (sortR (sortR l)) (sortR l))) 5 [.pure, .pure, .pure, .pure, .pure] [40] 40 (fun z => .sc (.bool (z && (rule_Same l l)))) ?J3 (fun hb J => ?ht3) (fun hb J => ?hf3))
      case ht3 =>
        exact .sg 1 [0,35,36] (.cp [0,35,37] (rule_Copy_ok l f_l) (.sg 1 [35,37,38] (.cp [35,39] (rule_Same_calls l l true f_l) (.sg 1 [40] (.cl J)))))
      case hf3 =>
        exact .sg 5 [40] (.cl J)
      refine .sg 1 [2] (.dn ?_)
      obtain rfl := Option.some.inj H
      exact .ret Try.func9 hc0
    ·
      refine .sg 22 [2] (.dn ?_)
      obtain rfl := Option.some.inj H
      exact .ret Try.func9 hc0

theorem RuleTables_true (l : List Rule) (w : ∀ y ∈ l, Rule.wf y) (_ : l.length * 272 ≤ 140737488355328) : podestalaw05_RuleTables_raw l = some true := by
  rw [podestalaw05_RuleTables_raw]
  simp only [List.length_map, ref_Same_eq, rule_Same_eq]
  by_cases hl : l.length > 60
  · rw [decide_eq_true (show ((l.length : Nat) : Int) > 60 by omega)]; rfl
  rw [decide_eq_false (by omega), refTable_raw_eq l w (by omega), refSortO_eq w (by omega)]
  simp only [cond_false, Option.bind_some, tableR_sort, sortR_self (sortR_srt l) (sortR_sound l), beq_self_eq_true, Bool.and_self]
  rfl

end Go.Proofs.Ytadolbhmdimbkaa

set_option linter.unusedVariables false
set_option linter.unusedSimpArgs false
set_option maxRecDepth 100000
set_option maxHeartbeats 4000000
namespace Go.Proofs.Ytadolbhmdimbkaa
open Go.Sh
/-! ### podestaref01.Whole: function 33 -/
noncomputable def podestaref01_Whole_F : Go.Sh.Fn := ⟨33, bodyOf Try.f33, 35⟩
def podestaref01_Whole_l1s : List Bool → List Int → Option ((List Int))
  | [], out1 =>
    some out1
  | x2 :: rest1, out1 =>
    (bif x2 then
      fitO (out1.length + ([49] : List Int).length) 1 (
      podestaref01_Whole_l1s rest1 (out1 ++ ([49] : List Int)))
    else
      fitO (out1.length + ([48] : List Int).length) 1 (
      podestaref01_Whole_l1s rest1 (out1 ++ ([48] : List Int))))
theorem podestaref01_Whole_l1_walk (h1 : List Int) (i : Nat) (out : List Int) (hlt_i : i < 12) (x1 : (List Bool)) (r : ByteArray) (c0 : Ctx) (hc0 : c0.m.length = 0) (res : (List Int)) (J : AX Try.prog tab podestaref01_Whole_F c0 (Rp tab.S c0 (.sc (.string r)) []) (some ⟨[.blk 1, .code [1, 1, 0, 1, 0, 0, 1, 1], .loop [1, 1, 0, 1, 0], .blk 0, .code [1, 1, 1]], [(1, .ptr 0 0 none), (3, .own 1 1000000), (4, .sc (.int .i64 ((i : Nat) : Int)))], [.box 25 [.arr .u64 12 h1], .row 5 (List.map (intA .u8) res) 1000000 true]⟩)) :
    ∀ (rest1 : List Bool) (k1 : Nat) (z : Int) (hI : z = ((k1 : Nat) : Int)) (hd : x1.drop k1 = rest1) (out1 : List Int) (H : podestaref01_Whole_l1s rest1 out1 = some res), AX Try.prog tab podestaref01_Whole_F c0 (Rp tab.S c0 (.sc (.string r)) []) (some ⟨[.code [1, 1, 0, 1, 0, 0, 1, 0, 0, 1, 1, 0, 0], .loop [1, 1, 0, 1, 0, 0, 1, 0, 0, 1, 1, 0], .blk 2, .blk 1, .code [1, 1, 0, 1, 0, 0, 1, 1], .loop [1, 1, 0, 1, 0], .blk 0, .code [1, 1, 1]], [(1, .ptr 0 0 none), (3, .own 1 1000000), (4, .sc (.int .i64 ((i : Nat) : Int))), (5, .sl 4 (List.map boolA x1) false), (6, .sc (.int .i64 z))], [.box 25 [.arr .u64 12 h1], .row 5 (List.map (intA .u8) out1) 1000000 true]⟩) := by
  intro rest1
  induction rest1 with
  | nil =>
    intro k1 z hI hd out1 H
    subst hI
    rw [podestaref01_Whole_l1s] at H
    refine .facts 5 fun hf => ?_
    have hlen : x1.length ≤ 9223372036854775807 := by have hq := len_ok hf.2.1; rw [List.length_map] at hq; exact hq
    have hge : x1.length ≤ k1 := List.drop_eq_nil_iff.1 hd
    have hc : (decide (((k1 : Nat) : Int) < (((List.map boolA x1).length : Nat) : Int))) = false := by rw [List.length_map]; exact decide_eq_false (by omega)
    refine .sg 3 [1,3,4,5,6,20] (.cdF hc (.sg 1 [1,3,4] (.kp [1,3,4] ?_)))
    obtain rfl := Option.some.inj H
    exact .to J
  | cons x2 rest1 ih =>
    intro k1 z hI hd out1 H
    subst hI
    rw [podestaref01_Whole_l1s] at H
    refine .facts 5 fun hf => ?_
    have hlen : x1.length ≤ 9223372036854775807 := by have hq := len_ok hf.2.1; rw [List.length_map] at hq; exact hq
    obtain ⟨hlt, hv_k1, hd2⟩ := drop_cons hd
    have hc : (decide (((k1 : Nat) : Int) < (((List.map boolA x1).length : Nat) : Int))) = true := by rw [List.length_map]; exact decide_eq_true (by omega)
    have hw : IntKind.i64.wrap (((k1 : Nat) : Int) + 1) = ((k1 + 1 : Nat) : Int) := wrapI_succ (by omega)
    refine .sg 3 [1,3,4,5,6,20] (.cdT hc (.sg 4 [1,3,4,5,6] (.rg (.sg 2 [1,3,4,5,6,23,24] (.xi [1,3,4,5,6,25] boolA hv_k1 (.sg 1 [1,3,4,5,6,26] (.dn (.cd x2 H (fun hb H => ?_) (fun hb H => ?_)))))))))
    ·
      exact .rg (.sg 2 [1,4,5,6,27,28] (fitH H fun hfit H => (.ap [1,4,5,6,29] (intA .u8) hfit (.sg 1 [1,3,4,5,6] (.dn (.sg 2 [1,3,4,5,6] (.tl hc0 [0,1] [1,3,4,5,6] (.into (.cl (ih (k1 + 1) _ hw hd2 (out1 ++ ([49] : List Int)) H))))))))))
    ·
      exact .rg (.sg 2 [1,4,5,6,30,31] (fitH H fun hfit H => (.ap [1,4,5,6,32] (intA .u8) hfit (.sg 1 [1,3,4,5,6] (.dn (.sg 2 [1,3,4,5,6] (.tl hc0 [0,1] [1,3,4,5,6] (.into (.cl (ih (k1 + 1) _ hw hd2 (out1 ++ ([48] : List Int)) H))))))))))

def podestaref01_Whole_l0s (h1 : List Int) : Nat → Nat → List Int → Option ((List Int))
  | 0, i, out =>
    some out
  | rest + 1, i, out =>
    (bitsO (h1.getD (i) 0) (sizeT ((i : Nat) : Int))).bind fun x1 =>
    (podestaref01_Whole_l1s x1 out).bind fun v =>
    podestaref01_Whole_l0s h1 rest (i + 1) v
theorem podestaref01_Whole_l0_walk (h1 : List Int) (r : ByteArray) (c0 : Ctx) (hc0 : c0.m.length = 0) (res : (List Int)) (J : AX Try.prog tab podestaref01_Whole_F c0 (Rp tab.S c0 (.sc (.string r)) []) (some ⟨[.code [1, 1, 1]], [(3, .own 1 1000000)], [.box 25 [.arr .u64 12 h1], .row 5 (List.map (intA .u8) res) 1000000 true]⟩)) :
    ∀ (rest : Nat) (i : Nat) (z : Int) (hI : z = ((i : Nat) : Int)) (hd : i + rest = 12) (out : List Int) (H : podestaref01_Whole_l0s h1 rest i out = some res), AX Try.prog tab podestaref01_Whole_F c0 (Rp tab.S c0 (.sc (.string r)) []) (some ⟨[.code [1, 1, 0, 1, 0, 0], .loop [1, 1, 0, 1, 0], .blk 0, .code [1, 1, 1]], [(1, .ptr 0 0 none), (3, .own 1 1000000), (4, .sc (.int .i64 z))], [.box 25 [.arr .u64 12 h1], .row 5 (List.map (intA .u8) out) 1000000 true]⟩) := by
  intro rest
  induction rest with
  | zero =>
    intro i z hI hd out H
    subst hI
    rw [podestaref01_Whole_l0s] at H
    have hc : (decide (((i : Nat) : Int) < 12)) = false := decide_eq_false (by omega)
    refine .sg 3 [1,3,4,8] (.cdF hc (.sg 1 [3] (.kp [3] ?_)))
    obtain rfl := Option.some.inj H
    exact .to J
  | succ rest ih =>
    intro i z hI hd out H
    subst hI
    rw [podestaref01_Whole_l0s] at H
    have hlt_i : i < 12 := by omega
    have hc : (decide (((i : Nat) : Int) < 12)) = true := decide_eq_true (by omega)
    have hw : IntKind.i64.wrap (((i : Nat) : Int) + 1) = ((i + 1 : Nat) : Int) := wrapI_succ (by omega)
    refine .sg 3 [1,3,4,8] (.cdT hc (.sg 4 [1,3,4] (.rg (.sg 1 [1,3,4,11] ?_))))
    have hreq := idx_in 12 hlt_i (by decide)
    refine .xa [1,3,4,12] hreq (.sg 2 [1,3,4,13,14] (.cp [1,3,4,13,15] (podestaref01_Size_ok ((i : Nat) : Int)) (bndO H fun x1 hv H => (.cp [1,3,4,16] (podestaref01_Bits_ok (h1.getD (i) 0) (sizeT ((i : Nat) : Int)) x1 hv) (.sg 1 [1,3,4,5] (.dn (.sg 3 [1,3,4,5,6] ?_)))))))
    refine bndO H fun v hv H => (.into (.to (podestaref01_Whole_l1_walk h1 i out hlt_i x1 r c0 hc0 v ?_ x1 0 _ rfl rfl out hv)))
    exact .sg 2 [1,3,4] (.kp [1,3,4] (.into (.cl (ih (i + 1) _ hw (by omega) v H))))

def podestaref01_Whole_raw (h1 : List Int) : Option (ByteArray) :=
  (podestaref01_Whole_l0s h1 12 0 ([] : List Int)).bind fun v =>
  some (strOfNums v)
theorem podestaref01_Whole_walk (h1 : List Int) (r : ByteArray) (H : podestaref01_Whole_raw h1 = some r) : ACalls Try.prog tab.S 33 [.arr .u64 12 h1] [] (.sc (.string r)) [] := by
  refine .of_AX podestaref01_Whole_F Try.func33 fun c0 hc0 => ?_
  rw [podestaref01_Whole_raw] at H
  refine .sg 8 [1,3,4] (.ad 3 5 true (.kp [1,3,4] ?_))
  refine bndO H fun v hv H => (.into (.to (podestaref01_Whole_l0_walk h1 r c0 hc0 v ?_ 12 0 _ rfl rfl ([] : List Int) hv)))
  refine .sg 1 [3] (.rg (.sg 1 [33] (.by_ [34] v (.sg 1 [2] (.dn ?_)))))
  obtain rfl := Option.some.inj H
  exact .ret Try.func33 hc0

def bit01 (b : Bool) : Int := if b then 49 else 48
theorem Whole_l1s_eq : ∀ (l : List Bool) (out : List Int), out.length + l.length ≤ 10000 → podestaref01_Whole_l1s l out = some (out ++ l.map bit01)
  | [], out, _ => by rw [podestaref01_Whole_l1s]; simp
  | x :: l, out, h => by
      rw [List.length_cons] at h
      have step : ∀ q : Int, podestaref01_Whole_l1s l (out ++ [q]) = some (out ++ q :: l.map bit01) := fun q => by
        rw [Whole_l1s_eq l (out ++ [q]) (by rw [List.length_append, List.length_cons, List.length_nil]; omega), List.append_assoc]; rfl
      rw [podestaref01_Whole_l1s, fitO_eq (by rw [List.length_cons, List.length_nil]; omega), fitO_eq (by rw [List.length_cons, List.length_nil]; omega)]
      cases x
      · exact step 48
      · exact step 49
def wholeS (h : List Int) : Nat → Nat → List Int
  | 0, _ => []
  | r + 1, i => (bitsL (h.getD i 0) (sizeN i)).map bit01 ++ wholeS h r (i + 1)
theorem Whole_l0s_eq (h : List Int) : ∀ (r i : Nat) (out : List Int), out.length + r * 64 ≤ 10000 → podestaref01_Whole_l0s h r i out = some (out ++ wholeS h r i)
  | 0, i, out, _ => by rw [podestaref01_Whole_l0s, wholeS, List.append_nil]
  | r + 1, i, out, hh => by
      have hs := sizeT_in ((i : Nat) : Int)
      have hn : sizeN i ≤ 64 := by unfold sizeN; omega
      rw [podestaref01_Whole_l0s, bitsO_size, Option.bind_some, Whole_l1s_eq _ out (by rw [bitsL_len]; omega), Option.bind_some, Whole_l0s_eq h r (i + 1) _ (by rw [List.length_append, List.length_map, bitsL_len]; omega), wholeS, List.append_assoc]
def wholeT (h : List Int) : ByteArray := strOfNums (wholeS h 12 0)
theorem podestaref01_Whole_ok (h : List Int) : ACalls Try.prog tab.S 33 [.arr .u64 12 h] [] (.sc (.string (wholeT h))) [] := by
  refine podestaref01_Whole_walk h _ ?_
  rw [podestaref01_Whole_raw, Whole_l0s_eq h 12 0 [] (by decide)]
  rfl
theorem text_whole_len (c : Cube) (h : List Int) : ∀ (r i : Nat), (textS c r i).length = (wholeS h r i).length
  | 0, _ => rfl
  | r + 1, i => by
      rw [textS, wholeS, List.length_append, List.length_append, List.length_zipWith, bitsL_len, bitsL_len, List.length_map, bitsL_len, Nat.min_self, text_whole_len c h r (i + 1)]

end Go.Proofs.Ytadolbhmdimbkaa

set_option linter.unusedVariables false
set_option linter.unusedSimpArgs false
set_option maxRecDepth 100000
set_option maxHeartbeats 4000000
namespace Go.Proofs.Ytadolbhmdimbkaa
open Go.Sh
def hasB (s w : List Int) (j : Nat) : Bool := (s.getD j 0 == 120) || (s.getD j 0 == w.getD j 0)
/-- a text and a header, sign by sign -/
def hasL : List Int → List Int → Bool
  | a :: s, b :: w => ((a == 120) || (a == b)) && hasL s w
  | _, _ => true
theorem chr_ok (v c : Bool) : 0 ≤ chrB v c ∧ chrB v c ≤ 255 := by cases v <;> cases c <;> decide
theorem bit01_ok (b : Bool) : 0 ≤ bit01 b ∧ bit01 b ≤ 255 := by cases b <;> decide
theorem hasL_append : ∀ (a b c d : List Int), a.length = b.length → hasL (a ++ c) (b ++ d) = (hasL a b && hasL c d)
  | [], [], c, d, _ => by rw [List.nil_append, List.nil_append]; show hasL c d = (true && hasL c d); rw [Bool.true_and]
  | [], _ :: _, _, _, h => by cases h
  | _ :: _, [], _, _, h => by cases h
  | x :: a, y :: b, c, d, h => by
      rw [List.cons_append, List.cons_append, hasL, hasL, hasL_append a b c d (by simpa using h), Bool.and_assoc]
/-- a field's signs: the value's bits where they are asked for -/
def bitsHas : List Bool → List Bool → List Bool → Bool
  | v :: vs, c :: cs, h :: hs => ((!c) || (v == h)) && bitsHas vs cs hs
  | _, _, _ => true
theorem hasL_bits : ∀ (vs cs hs : List Bool), vs.length = cs.length → cs.length = hs.length → hasL (List.zipWith chrB vs cs) (hs.map bit01) = bitsHas vs cs hs
  | [], [], [], _, _ => rfl
  | v :: vs, c :: cs, h :: hs, h1, h2 => by
      rw [List.zipWith_cons_cons, List.map_cons, hasL, bitsHas, hasL_bits vs cs hs (by simpa using h1) (by simpa using h2)]
      cases v <;> cases c <;> cases h <;> rfl
  | [], _ :: _, _, h1, _ => by cases h1
  | _ :: _, [], _, h1, _ => by cases h1
  | _, [], _ :: _, _, h2 => by cases h2
  | _, _ :: _, [], _, h2 => by cases h2

end Go.Proofs.Ytadolbhmdimbkaa

set_option linter.unusedVariables false
set_option linter.unusedSimpArgs false
set_option maxRecDepth 100000
set_option maxHeartbeats 4000000
namespace Go.Proofs.Ytadolbhmdimbkaa
open Go.Sh
theorem bitE_nat {n k : Nat} (hn : n < 18446744073709551616) (hk : k < 64) : bitE ((n : Nat) : Int) ((k : Nat) : Int) = n.testBit k := by
  have hw : ∀ z : Int, IntKind.u64.wrap z = z % 18446744073709551616 := fun z => by simp [IntKind.wrap, IntKind.bits, IntKind.signed]
  unfold bitE
  have e1 : IntKind.u64.wrap ((k : Nat) : Int) = ((k : Nat) : Int) := by rw [hw]; omega
  have e2 : min k (IntKind.u64).bits = k := Nat.min_eq_left (by show k ≤ 64; omega)
  have e3 : Int.fdiv ((n : Nat) : Int) (2 ^ k) = ((n / 2 ^ k : Nat) : Int) := by
    rw [Int.fdiv_eq_ediv_of_nonneg _ (Int.le_of_lt (pow_pos2 k))]
    norm_cast
  rw [e1, Int.toNat_natCast, e2, e3]
  have hlt : n / 2 ^ k < 18446744073709551616 := Nat.lt_of_le_of_lt (Nat.div_le_self _ _) hn
  have e4 : (BitVec.ofInt 64 ((n / 2 ^ k : Nat) : Int) &&& BitVec.ofInt 64 1).toNat = (n / 2 ^ k) % 2 := by
    rw [BitVec.toNat_and, BitVec.toNat_ofInt, BitVec.toNat_ofInt]
    have a1 : (((n / 2 ^ k : Nat) : Int) % ((2 ^ 64 : Nat) : Int)).toNat = n / 2 ^ k := by
      generalize n / 2 ^ k = q at hlt ⊢
      have p : ((2 ^ 64 : Nat) : Int) = 18446744073709551616 := by decide
      rw [p]; omega
    have a2 : ((1 : Int) % ((2 ^ 64 : Nat) : Int)).toNat = 1 := by decide
    rw [a1, a2, Nat.and_one_is_mod]
  rw [e4, hw, Nat.testBit_eq_decide_div_mod_eq]
  rcases Nat.mod_two_eq_zero_or_one (n / 2 ^ k) with q | q <;> rw [q] <;> rfl
theorem bitsHas_iff (v c h : Int) : ∀ n : Nat, bitsHas (bitsL v n) (bitsL c n) (bitsL h n) = true ↔ ∀ k, k < n → bitE c (k : Int) = true → bitE v (k : Int) = bitE h (k : Int)
  | 0 => by simp [bitsL, bitsHas]
  | n + 1 => by
      rw [bitsL, bitsL, bitsL, bitsHas, Bool.and_eq_true, bitsHas_iff v c h n]
      constructor
      · rintro ⟨h1, h2⟩ k hk hc
        rcases Nat.lt_or_ge k n with q | q
        · exact h2 k q hc
        · have : k = n := by omega
          subst this
          rw [hc] at h1
          simpa using h1
      · intro hh
        refine ⟨?_, fun k hk => hh k (by omega)⟩
        cases hc : bitE c (n : Int)
        · rfl
        · rw [hh n (by omega) hc]; simp
/-- a field: in it just if the bits that are given agree -/
theorem field_has {v c h n : Nat} (hv : v < 18446744073709551616) (hc : c < 18446744073709551616) (hh : h < 18446744073709551616) (hn : n ≤ 64) (hcn : c < 2 ^ n) (hvc : ∀ k, v.testBit k = true → c.testBit k = true) :
    bitsHas (bitsL (v : Int) n) (bitsL (c : Int) n) (bitsL (h : Int) n) = decide (h &&& c = v) := by
  rw [Bool.eq_iff_iff, bitsHas_iff, decide_eq_true_eq]
  have hcb : ∀ k, n ≤ k → c.testBit k = false := fun k hk => Nat.testBit_lt_two_pow (Nat.lt_of_lt_of_le hcn (Nat.pow_le_pow_right (by decide) hk))
  constructor
  · intro hb
    apply Nat.eq_of_testBit_eq
    intro k
    rw [Nat.testBit_and]
    cases hk : c.testBit k
    · rw [Bool.and_false]
      cases hq : v.testBit k
      · rfl
      · rw [hvc k hq] at hk; cases hk
    · rw [Bool.and_true]
      have hkn : k < n := by
        rcases Nat.lt_or_ge k n with q | q
        · exact q
        · rw [hcb k q] at hk; cases hk
      have := hb k hkn (by rw [bitE_nat hc (by omega)]; exact hk)
      rw [bitE_nat hv (by omega), bitE_nat hh (by omega)] at this
      exact this.symm
  · intro e k hk hcK
    rw [bitE_nat hc (by omega)] at hcK
    rw [bitE_nat hv (by omega), bitE_nat hh (by omega), ← e, Nat.testBit_and, hcK, Bool.and_true]

end Go.Proofs.Ytadolbhmdimbkaa

set_option linter.unusedVariables false
set_option linter.unusedSimpArgs false
set_option maxRecDepth 100000
set_option maxHeartbeats 4000000
namespace Go.Proofs.Ytadolbhmdimbkaa
open Go.Sh
/-! ### podestaref01.Has: function 13 -/
noncomputable def podestaref01_Has_F : Go.Sh.Fn := ⟨13, bodyOf Try.f13, 43⟩
def podestaref01_Has_l0 (c : Cube) (h1 : List Int) : Nat → Bool → Int → Option (Bool)
  | 0, _, _ => none
  | m + 1, ok, i =>
    (bif (decide (i < ((((textT c).1).size : Nat) : Int))) then
    (bif ok then
      reqO (decide (0 ≤ i) && decide (i < ((((textT c).1).size : Nat) : Int))) (
      (bif ((byteAt ((textT c).1) i) == 120) then
        podestaref01_Has_l0 c h1 m true (IntKind.i64.wrap (i + 1))
      else
        reqO (decide (0 ≤ i) && decide (i < ((((textT c).1).size : Nat) : Int))) (
        reqO (decide (0 ≤ i) && decide (i < (((wholeT h1).size : Nat) : Int))) (
        podestaref01_Has_l0 c h1 m ((byteAt ((textT c).1) i) == (byteAt (wholeT h1) i)) (IntKind.i64.wrap (i + 1))))))
    else
      podestaref01_Has_l0 c h1 m false (IntKind.i64.wrap (i + 1)))
  else
    some ok)
theorem podestaref01_Has_l0_walk (q0 : Nat) (c : Cube) (h1 : List Int)  (r : Bool) (c0 : Ctx) (hc0 : c0.m.length = 0) (res : Bool) (J : AX Try.prog tab podestaref01_Has_F c0 (Rp tab.S c0 (.sc (.bool r)) []) (some ⟨[.code [1, 1, 1, 1]], [(3, .ptr 1 0 none), (6, .sc (.bool res))], [.box 31 (Cube.ch c), .box 25 [.arr .u64 12 h1]]⟩)) :
    ∀ (m : Nat) (ok : Bool) (i : Int) (H : podestaref01_Has_l0 c h1 m ok i = some res), AX Try.prog tab podestaref01_Has_F c0 (Rp tab.S c0 (.sc (.bool r)) []) (some ⟨[.code [1, 1, 1, 0, 1, 0, 0], .loop [1, 1, 1, 0, 1, 0], .blk 0, .code [1, 1, 1, 1]], [(3, .ptr 1 0 none), (5, .sc (.string ((textT c).1))), (6, .sc (.bool ok)), (7, .sc (.string (wholeT h1))), (8, .sc (.int .i64 i))], [.box 31 (Cube.ch c), .box 25 [.arr .u64 12 h1]]⟩) := by
  intro m
  induction m with
  | zero => intro ok i H; cases H
  | succ m ih =>
    intro ok i H
    rw [podestaref01_Has_l0] at H
    refine .sg 3 [3,5,6,7,8,19] (.cd (decide (i < ((((textT c).1).size : Nat) : Int))) H (fun hb H => ?_) (fun hb H => ?_))
    ·
      refine .sg 3 [3,5,6,7,8] (.rg (.sg 2 [3,5,7,8,23] (.sp 23 ok H (fun hb H => ?_) (fun hb H => ?_))))
      ·
        refine .sg 2 [3,5,7,8,23,24,25] (reqH H fun hreq H => (.xs [3,5,7,8,23,26] hreq (.sg 2 [3,5,7,8,23,28] (.sp 28 ((byteAt ((textT c).1) i) == 120) H (fun hb H => ?_) (fun hb H => ?_)))))
        ·
          exact .sg 10 [3,5,6,7,8] (.dn (.sg 2 [3,5,6,7,8] (.kp [3,5,6,7,8] (.into (.to (ih true (IntKind.i64.wrap (i + 1)) H))))))
        ·
          exact .sg 2 [3,5,7,8,23,28,29,30] (reqH H fun hreq H => (.xs [3,5,7,8,23,28,31] hreq (.sg 2 [3,5,7,8,23,28,31,32,33] (reqH H fun hreq H => (.xs [3,5,7,8,23,28,31,34] hreq (.sg 4 [3,5,6,7,8] (.dn (.sg 2 [3,5,6,7,8] (.kp [3,5,6,7,8] (.into (.to (ih ((byteAt ((textT c).1) i) == (byteAt (wholeT h1) i)) (IntKind.i64.wrap (i + 1)) H))))))))))))
      ·
        exact .sg 15 [3,5,6,7,8] (.dn (.sg 2 [3,5,6,7,8] (.kp [3,5,6,7,8] (.into (.to (ih false (IntKind.i64.wrap (i + 1)) H))))))
    ·
      refine .sg 1 [3,6] (.kp [3,6] ?_)
      obtain rfl := Option.some.inj H
      exact .to J
def podestaref01_Has_raw (q0 : Nat) (c : Cube) (h1 : List Int) : Option (Bool) :=
  (podestaref01_Has_l0 c h1 q0 ((textT c).2) 0).bind fun v =>
  some (v && (podestaref01_Head h1))
theorem podestaref01_Has_walk (q0 : Nat) (c : Cube) (h1 : List Int) (r : Bool) (H : podestaref01_Has_raw q0 c h1 = some r) : ACalls Try.prog tab.S 13 [Cube.av c, .arr .u64 12 h1] [] (.sc (.bool r)) [] := by
  refine .of_AX podestaref01_Has_F Try.func13 fun c0 hc0 => ?_
  rw [podestaref01_Has_raw] at H
  refine .sg 3 [2,3] (.rg (.sg 1 [3,10] (.cp [3,11] (podestaref01_Text_ok c) (.sg 5 [3,5,6] (.dn (.sg 1 [3,5,6] (.rg (.sg 1 [3,5,6,14] (.cp [3,5,6,15] (podestaref01_Whole_ok h1) (.sg 1 [3,5,6,7] (.dn (.sg 4 [3,5,6,7,8] ?_))))))))))))
  refine bndO H fun v hv H => (.into (.to (podestaref01_Has_l0_walk q0 c h1 r c0 hc0 v ?_ q0 ((textT c).2) 0 hv)))
  refine .sg 1 [3,6] (.rg (.sg 2 [3,39] (.mm 39 v 3 [.pure, .pure, .read] [42] 42 (fun z => .sc (.bool (z && (podestaref01_Head h1)))) ?J1 (fun hb J => ?ht1) (fun hb J => ?hf1))))
  case ht1 =>
    exact .sg 1 [39,40] (.cp [39,41] (podestaref01_Head_calls h1) (.sg 1 [42] (.cl J)))
  case hf1 =>
    exact .sg 3 [42] (.cl J)
  refine .sg 1 [4] (.dn ?_)
  obtain rfl := Option.some.inj H
  exact .ret Try.func13 hc0

theorem byteAt_nums (L : List Int) (hL : ∀ x ∈ L, 0 ≤ x ∧ x ≤ 255) {j : Nat} (hj : j < L.length) : byteAt (strOfNums L) (j : Int) = L[j] := by
  have h := hL L[j] (List.getElem_mem hj)
  unfold byteAt strOfNums
  rw [Int.toNat_natCast, List.getD_eq_getElem?_getD]
  simp [hj]
  omega
theorem text_bytes (c : Cube) : ∀ (r i : Nat), ∀ x ∈ textS c r i, 0 ≤ x ∧ x ≤ 255
  | 0, _, x, h => by cases h
  | r + 1, i, x, h => by
      rw [textS] at h
      rcases List.mem_append.1 h with q | q
      · obtain ⟨k, hk, rfl⟩ := List.getElem_of_mem q
        rw [List.getElem_zipWith]
        exact chr_ok _ _
      · exact text_bytes c r (i + 1) x q
theorem whole_bytes (h : List Int) : ∀ (r i : Nat), ∀ x ∈ wholeS h r i, 0 ≤ x ∧ x ≤ 255
  | 0, _, x, hx => by cases hx
  | r + 1, i, x, hx => by
      rw [wholeS] at hx
      rcases List.mem_append.1 hx with q | q
      · obtain ⟨b, _, rfl⟩ := List.mem_map.1 q
        exact bit01_ok b
      · exact whole_bytes h r (i + 1) x q
theorem Has_l0_eq (c : Cube) (h : List Int) (hN : (textS c 12 0).length ≤ 100000) : ∀ (m i : Nat) (ok : Bool), i ≤ (textS c 12 0).length → (textS c 12 0).length - i < m → podestaref01_Has_l0 c h m ok (i : Int) = some (ok && hasL ((textS c 12 0).drop i) ((wholeS h 12 0).drop i))
  | 0, i, ok, _, hm => absurd hm (by omega)
  | m + 1, i, ok, hi, hm => by
      have e1 : (textT c).1 = strOfNums (textS c 12 0) := rfl
      have e2 : wholeT h = strOfNums (wholeS h 12 0) := rfl
      have hl := text_whole_len c h 12 0
      rw [podestaref01_Has_l0, e1, e2, show ∀ L : List Int, (strOfNums L).size = L.length from fun L => by simp [strOfNums, ByteArray.size], show ∀ L : List Int, (strOfNums L).size = L.length from fun L => by simp [strOfNums, ByteArray.size]]
      by_cases hlt : i < (textS c 12 0).length
      · have hw : i < (wholeS h 12 0).length := by omega
        rw [decide_eq_true (by omega), cond_true, byteAt_nums _ (text_bytes c 12 0) hlt, byteAt_nums _ (whole_bytes h 12 0) hw, wrap_succ (by omega), List.drop_eq_getElem_cons hlt, List.drop_eq_getElem_cons hw, hasL]
        have r1 : (decide (0 ≤ (i : Int)) && true) = true := by rw [decide_eq_true (by omega)]; rfl
        have r2 : (decide (0 ≤ (i : Int)) && decide ((i : Int) < (((wholeS h 12 0).length : Nat) : Int))) = true := by rw [decide_eq_true (by omega), decide_eq_true (by omega)]; rfl
        have ih := fun ok => Has_l0_eq c h hN m (i + 1) ok (by omega) (by omega)
        rw [ih, ih, ih]
        cases ok
        · rfl
        · rw [cond_true, reqO_eq r1, reqO_eq r1, reqO_eq r2]
          cases (textS c 12 0)[i] == 120 <;> rfl
      · rw [decide_eq_false (by omega), cond_false, List.drop_eq_nil_of_le (by omega)]
        cases ok <;> rfl
theorem textS_len (c : Cube) : ∀ (r i : Nat), (textS c r i).length ≤ r * 64
  | 0, _ => Nat.le_refl _
  | r + 1, i => by
      have ih := textS_len c r (i + 1)
      have hs := sizeT_in ((i : Nat) : Int)
      have hn : sizeN i ≤ 64 := by unfold sizeN; omega
      rw [textS, List.length_append, List.length_zipWith, bitsL_len, bitsL_len, Nat.min_self]
      omega
def refHasP (c : Cube) (h : List Int) : Bool := ((textT c).2 && hasL (textS c 12 0) (wholeS h 12 0)) && podestaref01_Head h
theorem podestaref01_Has_ok (c : Cube) (h : List Int) : ACalls Try.prog tab.S 13 [Cube.av c, .arr .u64 12 h] [] (.sc (.bool (refHasP c h))) [] := by
  have hl := textS_len c 12 0
  refine podestaref01_Has_walk ((textS c 12 0).length + 1) c h _ ?_
  have e := Has_l0_eq c h (by omega) ((textS c 12 0).length + 1) 0 (textT c).2 (Nat.zero_le _) (by omega)
  rw [List.drop_zero, List.drop_zero, show ((0 : Nat) : Int) = 0 from rfl] at e
  rw [podestaref01_Has_raw, e]
  rfl

/-! ### podestaref04.Find: function 12 -/
noncomputable def podestaref04_Find_F : Go.Sh.Fn := ⟨12, bodyOf Try.f12, 21⟩
def podestaref04_Find_l0s (h1 : List Int) : List Rule → Nat → Sum (Unit) (Int × Bool)
  | [], i =>
    (.inl ())
  | x :: rest, i =>
    (bif (refHasP x.Match h1) then
      (.inr (((i : Nat) : Int), true))
    else
      podestaref04_Find_l0s h1 rest (i + 1) )
theorem podestaref04_Find_l0_walk (l : List Rule) (h1 : List Int) (f_l : Bool) (r : Int × Bool) (c0 : Ctx) (hc0 : c0.m.length = 0) (res : Sum (Unit) (Int × Bool)) (J : ∀ w : Unit, res = .inl w → AX Try.prog tab podestaref04_Find_F c0 (Rp tab.S c0 (.tup [.sc (.int .i64 r.1), .sc (.bool r.2)]) []) (some ⟨[.code [1, 1]], [], [.box 25 [.arr .u64 12 h1]]⟩)) (Jr : ∀ w, res = .inr w → w = r) :
    ∀ (rest : List Rule) (i : Nat) (z : Int) (hI : z = ((i : Nat) : Int)) (hd : l.drop i = rest) (H : podestaref04_Find_l0s h1 rest i = res), AX Try.prog tab podestaref04_Find_F c0 (Rp tab.S c0 (.tup [.sc (.int .i64 r.1), .sc (.bool r.2)]) []) (some ⟨[.code [1, 0, 1, 0, 0], .loop [1, 0, 1, 0], .blk 0, .code [1, 1]], [(0, .sl 34 (List.map Rule.av l) f_l), (3, .ptr 0 0 none), (6, .sc (.int .i64 z))], [.box 25 [.arr .u64 12 h1]]⟩) := by
  intro rest
  induction rest with
  | nil =>
    intro i z hI hd  H
    subst hI
    rw [podestaref04_Find_l0s] at H
    refine .facts 0 fun hf => ?_
    have hlen : l.length ≤ 9223372036854775807 := by have hq := len_ok hf.2.1; rw [List.length_map] at hq; exact hq
    have hge : l.length ≤ i := List.drop_eq_nil_iff.1 hd
    have hc : (decide (((i : Nat) : Int) < (((List.map Rule.av l).length : Nat) : Int))) = false := by rw [List.length_map]; exact decide_eq_false (by omega)
    exact .sg 3 [0,3,6,10] (.cdF hc (.sg 1 [] (.kp [] (.to (J () H.symm)))))
  | cons x rest ih =>
    intro i z hI hd  H
    subst hI
    rw [podestaref04_Find_l0s] at H
    refine .facts 0 fun hf => ?_
    have hlen : l.length ≤ 9223372036854775807 := by have hq := len_ok hf.2.1; rw [List.length_map] at hq; exact hq
    obtain ⟨hlt, hv_i, hd2⟩ := drop_cons hd
    have hc : (decide (((i : Nat) : Int) < (((List.map Rule.av l).length : Nat) : Int))) = true := by rw [List.length_map]; exact decide_eq_true (by omega)
    have hw : IntKind.i64.wrap (((i : Nat) : Int) + 1) = ((i + 1 : Nat) : Int) := wrapI_succ (by omega)
    refine .sg 3 [0,3,6,10] (.cdT hc (.sg 4 [0,3,6] (.rg (.sg 2 [0,3,6,13,14] (.xi [0,3,6,15] Rule.av hv_i (.sg 3 [0,3,6,17,18] (.cp [0,3,6,19] (podestaref01_Has_ok x.Match h1) (.dn (.cd (refHasP x.Match h1) H (fun hb H => ?_) (fun hb H => ?_))))))))))
    ·
      refine .sg 2 [4,5] ?_
      subst H
      obtain rfl := Jr _ rfl
      exact .ret Try.func12 hc0
    ·
      exact .sg 3 [0,3,6] (.kp [0,3,6] (.into (.cl (ih (i + 1) _ hw hd2 H))))

def podestaref04_Find (l : List Rule) (h1 : List Int) : Int × Bool :=
  sumG (fun q => q) (podestaref04_Find_l0s h1 l 0) fun v =>
  (0, false)
theorem podestaref04_Find_calls (l : List Rule) (h1 : List Int) (f_l : Bool) : ACalls Try.prog tab.S 12 [.sl 34 (List.map Rule.av l) f_l, .arr .u64 12 h1] [] (.tup [.sc (.int .i64 ((podestaref04_Find l h1).1)), .sc (.bool ((podestaref04_Find l h1).2))]) [] := by
  generalize H : podestaref04_Find l h1 = r
  refine .of_AX podestaref04_Find_F Try.func12 fun c0 hc0 => ?_
  rw [podestaref04_Find] at H
  refine .sg 6 [0,3,6] ?_
  rcases sumG_eq H with ⟨v, hv, H⟩ | ⟨r1, hv, hr1⟩
  case inr =>
    refine .into ?_
    replace hr1 : r1 = r := hr1
    subst hr1
    exact .to (podestaref04_Find_l0_walk l h1 f_l _ c0 hc0 (.inr _) (fun _ e => by cases e) (fun _ e => (Sum.inr.inj e).symm) l 0 _ rfl rfl hv)
  refine .into (.to (podestaref04_Find_l0_walk l h1 f_l r c0 hc0 (.inl v) (fun w e => ?_) (fun _ e => by cases e) l 0 _ rfl rfl hv))
  have e := Sum.inl.inj e
  subst e
  refine .sg 2 [4,5] ?_
  subst H
  exact .ret Try.func12 hc0

end Go.Proofs.Ytadolbhmdimbkaa

set_option linter.unusedVariables false
set_option linter.unusedSimpArgs false
set_option maxRecDepth 100000
set_option maxHeartbeats 4000000
namespace Go.Proofs.Ytadolbhmdimbkaa
open Go.Sh
/-- the fields, one by one -/
def hasF (c : Cube) (h : List Int) : Nat → Nat → Bool
  | 0, _ => true
  | r + 1, i => bitsHas (bitsL (c.Value.getD i 0) (sizeN i)) (bitsL (c.Care.getD i 0) (sizeN i)) (bitsL (h.getD i 0) (sizeN i)) && hasF c h r (i + 1)
theorem hasL_fields (c : Cube) (h : List Int) : ∀ (r i : Nat), hasL (textS c r i) (wholeS h r i) = hasF c h r i
  | 0, _ => rfl
  | r + 1, i => by
      rw [textS, wholeS, hasF, hasL_append _ _ _ _ (by rw [List.length_zipWith, bitsL_len, bitsL_len, List.length_map, bitsL_len, Nat.min_self]), hasL_bits _ _ _ (by rw [bitsL_len, bitsL_len]) (by rw [bitsL_len, bitsL_len]), hasL_fields c h r (i + 1)]

end Go.Proofs.Ytadolbhmdimbkaa

set_option linter.unusedVariables false
set_option linter.unusedSimpArgs false
set_option maxRecDepth 100000
set_option maxHeartbeats 4000000
namespace Go.Proofs.Ytadolbhmdimbkaa
open Go.Sh
theorem u64_range {xs : List Int} {n : Nat} (h : arrW .u64 n xs) (i : Nat) : ∃ k : Nat, xs.getD i 0 = (k : Int) ∧ k < 18446744073709551616 := by
  rw [List.getD_eq_getElem?_getD]
  by_cases hi : i < xs.length
  · rw [List.getElem?_eq_getElem hi]
    have := h.2 _ (List.getElem_mem hi)
    unfold Go.Lit.wf at this
    rw [Bool.and_eq_true, decide_eq_true_eq, decide_eq_true_eq] at this
    have h0 : 0 ≤ xs[i] := this.1
    have h2 : xs[i] ≤ 18446744073709551615 := this.2
    refine ⟨xs[i].toNat, ?_, ?_⟩
    · simp only [Option.getD_some]; omega
    · omega
  · rw [List.getElem?_eq_none (by omega)]
    exact ⟨0, rfl, by decide⟩
theorem ofInt_nat {n : Nat} (hn : n < 18446744073709551616) : (BitVec.ofInt 64 ((n : Nat) : Int)).toNat = n := by
  rw [BitVec.toNat_ofInt]
  have p : ((2 ^ 64 : Nat) : Int) = 18446744073709551616 := by decide
  rw [p]; omega
theorem wrapU_nat {n : Nat} (hn : n < 18446744073709551616) : IntKind.u64.wrap ((n : Nat) : Int) = (n : Int) := by
  have hw : ∀ z : Int, IntKind.u64.wrap z = z % 18446744073709551616 := fun z => by simp [IntKind.wrap, IntKind.bits, IntKind.signed]
  rw [hw]; omega
/-- a value's bits are among those that are given -/
theorem sub_bits {c : Cube} {i v k : Nat} (ev : c.Value.getD i 0 = (v : Int)) (hv : v < 18446744073709551616) (ek : c.Care.getD i 0 = (k : Int)) (hk : k < 18446744073709551616) (hb : badAt c i = false) : ∀ j, v.testBit j = true → k.testBit j = true := by
  unfold badAt at hb
  rw [ev, ek] at hb
  intro j hj
  by_cases hj64 : j < 64
  · have h0 : (BitVec.ofInt 64 ((v : Nat) : Int) &&& ~~~ (BitVec.ofInt 64 ((k : Nat) : Int))) = 0#64 := by
      have hlt := (BitVec.ofInt 64 ((v : Nat) : Int) &&& ~~~ (BitVec.ofInt 64 ((k : Nat) : Int))).isLt
      rw [wrapU_nat (by omega)] at hb
      apply BitVec.eq_of_toNat_eq
      have : (((BitVec.ofInt 64 ((v : Nat) : Int) &&& ~~~ (BitVec.ofInt 64 ((k : Nat) : Int))).toNat : Nat) : Int) = 0 := by simpa using hb
      simpa using this
    have h1 := congrArg (fun b => b.getLsbD j) h0
    simp only [BitVec.getLsbD_and, BitVec.getLsbD_not, BitVec.getLsbD_zero, hj64, decide_true, Bool.true_and] at h1
    rw [BitVec.getLsbD, BitVec.getLsbD, ofInt_nat hv, ofInt_nat hk, hj, Bool.true_and] at h1
    simpa using h1
  · have : v.testBit j = false := Nat.testBit_lt_two_pow (Nat.lt_of_lt_of_le hv (Nat.pow_le_pow_right (n := 2) (by decide) (show 64 ≤ j by omega)))
    rw [this] at hj; cases hj
theorem care_lt {c : Cube} {i k : Nat} (ek : c.Care.getD i 0 = (k : Int)) (hf : fitsT ((i : Nat) : Int) (c.Care.getD i 0) = true) : k < 2 ^ sizeN i := by
  rw [ek] at hf
  unfold fitsT at hf
  rw [decide_eq_true_eq] at hf
  have : ((k : Nat) : Int) < ((2 ^ sizeN i : Nat) : Int) := by
    unfold sizeN
    push_cast
    exact hf
  omega
theorem sizeN_le (i : Nat) : sizeN i ≤ 64 := by
  have hs := sizeT_in ((i : Nat) : Int)
  unfold sizeN
  omega

def fieldE (c : Cube) (h : List Int) (i : Nat) : Bool := (IntKind.u64.wrap ((BitVec.ofInt 64 (h.getD i 0) &&& BitVec.ofInt 64 (c.Care.getD i 0)).toNat)) == (c.Value.getD i 0)
def fieldsE (c : Cube) (h : List Int) : Nat → Nat → Bool
  | 0, _ => true
  | r + 1, i => fieldE c h i && fieldsE c h r (i + 1)
theorem cube_Has_l0s_eq (c : Cube) (h : List Int) : ∀ (r i : Nat), cube_Has_l0s c h r i = if fieldsE c h r i then .inl () else .inr false
  | 0, _ => rfl
  | r + 1, i => by
      rw [cube_Has_l0s, cube_Has_l0s_eq c h r (i + 1), fieldsE]
      show (bif !(fieldE c h i) then _ else _) = _
      cases fieldE c h i <;> rfl
theorem field_eq {c : Cube} {h : List Int} (wc : Cube.wf c) (wh : arrW .u64 12 h) {i : Nat} (hb : badAt c i = false) (hf : fitsT ((i : Nat) : Int) (c.Care.getD i 0) = true) :
    bitsHas (bitsL (c.Value.getD i 0) (sizeN i)) (bitsL (c.Care.getD i 0) (sizeN i)) (bitsL (h.getD i 0) (sizeN i)) = fieldE c h i := by
  obtain ⟨v, ev, hv⟩ := u64_range wc.1 i
  obtain ⟨k, ek, hk⟩ := u64_range wc.2 i
  obtain ⟨q, eq, hq⟩ := u64_range wh i
  have hs := sizeT_in ((i : Nat) : Int)
  have hn : sizeN i ≤ 64 := by unfold sizeN; omega
  unfold badAt at hb
  unfold fieldE
  rw [ev, ek] at hb
  rw [ek] at hf
  rw [ev, ek, eq]
  have hkn : k < 2 ^ sizeN i := by
    unfold fitsT at hf
    rw [decide_eq_true_eq] at hf
    have : ((k : Nat) : Int) < ((2 ^ sizeN i : Nat) : Int) := by
      unfold sizeN
      push_cast
      exact hf
    omega
  have hvc : ∀ j, v.testBit j = true → k.testBit j = true := by
    intro j hj
    by_cases hj64 : j < 64
    · have h0 : (BitVec.ofInt 64 ((v : Nat) : Int) &&& ~~~ (BitVec.ofInt 64 ((k : Nat) : Int))) = 0#64 := by
        have hlt := (BitVec.ofInt 64 ((v : Nat) : Int) &&& ~~~ (BitVec.ofInt 64 ((k : Nat) : Int))).isLt
        rw [wrapU_nat (by omega)] at hb
        apply BitVec.eq_of_toNat_eq
        have : (((BitVec.ofInt 64 ((v : Nat) : Int) &&& ~~~ (BitVec.ofInt 64 ((k : Nat) : Int))).toNat : Nat) : Int) = 0 := by simpa using hb
        simpa using this
      have h1 := congrArg (fun b => b.getLsbD j) h0
      simp only [BitVec.getLsbD_and, BitVec.getLsbD_not, BitVec.getLsbD_zero, hj64, decide_true, Bool.true_and] at h1
      rw [BitVec.getLsbD, BitVec.getLsbD, ofInt_nat hv, ofInt_nat hk, hj, Bool.true_and] at h1
      simpa using h1
    · have : v.testBit j = false := Nat.testBit_lt_two_pow (Nat.lt_of_lt_of_le hv (Nat.pow_le_pow_right (n := 2) (by decide) (show 64 ≤ j by omega)))
      rw [this] at hj; cases hj
  rw [field_has hv hk hq hn hkn hvc, BitVec.toNat_and, ofInt_nat hq, ofInt_nat hk, wrapU_nat (Nat.lt_of_le_of_lt Nat.and_le_left hq), Bool.eq_iff_iff, decide_eq_true_eq, beq_iff_eq]
  omega

end Go.Proofs.Ytadolbhmdimbkaa

set_option linter.unusedVariables false
set_option linter.unusedSimpArgs false
set_option maxRecDepth 100000
set_option maxHeartbeats 4000000
namespace Go.Proofs.Ytadolbhmdimbkaa
open Go.Sh
def HeadOk (h : List Int) : Bool := (List.range' 0 12).all fun i => fitsT ((i : Nat) : Int) (h.getD i 0)
theorem refHead_l0s_eq (h : List Int) : ∀ (n i : Nat), podestaref01_Head_l0s h n i = if (List.range' i n).all (fun i => fitsT ((i : Nat) : Int) (h.getD i 0)) then .inl () else .inr false
  | 0, i => rfl
  | n + 1, i => by
      rw [podestaref01_Head_l0s, refFits_eq, refHead_l0s_eq h n (i + 1), List.range'_succ, List.all_cons]
      cases fitsT ((i : Nat) : Int) (h.getD i 0)
      · rfl
      · simp only [Bool.not_true, cond_false, Bool.true_and]
theorem refHead_eq (h : List Int) : podestaref01_Head h = HeadOk h := by
  unfold podestaref01_Head HeadOk
  rw [refHead_l0s_eq]
  cases (List.range' 0 12).all _ <;> rfl

theorem textOk_parts (c : Cube) : ∀ (r i : Nat) (ok : Bool), textOk c r i ok = true → ok = true ∧ ∀ j, i ≤ j → j < i + r → badAt c j = false
  | 0, i, ok, h => ⟨h, fun j h1 h2 => absurd h2 (by omega)⟩
  | r + 1, i, ok, h => by
      rw [textOk] at h
      obtain ⟨h1, h2⟩ := textOk_parts c r (i + 1) _ h
      cases hb : badAt c i
      · rw [hb] at h1
        refine ⟨h1, fun j h3 h4 => ?_⟩
        rcases Nat.eq_or_lt_of_le h3 with q | q
        · subst q; exact hb
        · exact h2 j (by omega) (by omega)
      · rw [hb] at h1; cases h1
theorem fields_eq {c : Cube} {h : List Int} (wc : Cube.wf c) (wh : arrW .u64 12 h) (hb : ∀ j, j < 12 → badAt c j = false) (hf : ∀ j : Nat, j < 12 → fitsT ((j : Nat) : Int) (c.Care.getD j 0) = true) : ∀ (r i : Nat), i + r = 12 → hasF c h r i = fieldsE c h r i
  | 0, _, _ => rfl
  | r + 1, i, e => by
      rw [hasF, fieldsE, field_eq wc wh (hb i (by omega)) (hf i (by omega)), fields_eq wc wh hb hf r (i + 1) (by omega)]
theorem cube_Has_eq {c : Cube} {h : List Int} (wc : Cube.wf c) (wh : arrW .u64 12 h) : cube_Has c h = refHasP c h := by
  rw [cube_Has, cube_Has_l0s_eq, refHasP, hasL_fields, cube_Sound_eq wc, head_Sound_eq wh, podestaref01_Cube]
  cases hT : (textT c).2
  · cases fieldsE c h 12 0 <;> rfl
  · obtain ⟨h1, h2⟩ := textOk_parts c 12 0 _ hT
    rw [refHead_eq] at h1
    unfold HeadOk at h1
    rw [List.all_eq_true] at h1
    rw [fields_eq wc wh (fun j hj => h2 j (Nat.zero_le _) (by omega)) (fun j hj => h1 j (by rw [List.mem_range'_1]; omega)) 12 0 rfl]
    cases fieldsE c h 12 0
    · rfl
    · cases podestaref01_Head h <;> rfl

end Go.Proofs.Ytadolbhmdimbkaa

set_option linter.unusedVariables false
set_option linter.unusedSimpArgs false
set_option maxRecDepth 100000
set_option maxHeartbeats 4000000
namespace Go.Proofs.Ytadolbhmdimbkaa
open Go.Sh
/-! ### cube.both: function 61 -/
noncomputable def cube_both_F : Go.Sh.Fn := ⟨61, bodyOf Try.f61, 11⟩
def cube_both (a : Cube) (b : Cube) : Bool :=
  ((cube_Sound a) && (cube_Sound b))
theorem cube_both_calls (a : Cube) (b : Cube) : ACalls Try.prog tab.S 61 [Cube.av a, Cube.av b] [] (.sc (.bool (cube_both a b))) [] := by
  generalize H : cube_both a b = r
  refine .of_AX cube_both_F Try.func61 fun c0 hc0 => ?_
  rw [cube_both] at H
  refine .sg 3 [2,3] (.rg (.sg 1 [3,5] (.cp [3,6] (cube_Sound_calls a) (.sg 1 [3,7] (.mm 7 (cube_Sound a) 3 [.pure, .pure, .read] [10] 10 (fun z => .sc (.bool (z && (cube_Sound b)))) ?J1 (fun hb J => ?ht1) (fun hb J => ?hf1))))))
  case ht1 =>
    exact .sg 1 [7,8] (.cp [7,9] (cube_Sound_calls b) (.sg 1 [10] (.cl J)))
  case hf1 =>
    exact .sg 3 [10] (.cl J)
  refine .sg 1 [4] (.dn ?_)
  subst H
  exact .ret Try.func61 hc0

/-! ### cube.Meet: function 43 -/
noncomputable def cube_Meet_F : Go.Sh.Fn := ⟨43, bodyOf Try.f43, 60⟩
def cube_Meet_l0s (b : Cube) : Nat → Nat → List Int → List Int → Sum ((List Int) × (List Int)) (Cube × Bool)
  | 0, t12, a_0, a_1 =>
    (.inl (a_0, a_1))
  | rest + 1, t12, a_0, a_1 =>
    (bif ((IntKind.u64.wrap ((BitVec.ofInt 64 (IntKind.u64.wrap ((BitVec.ofInt 64 (IntKind.u64.wrap ((BitVec.ofInt 64 (a_0.getD (t12) 0) ^^^ BitVec.ofInt 64 (b.Value.getD (t12) 0)).toNat)) &&& BitVec.ofInt 64 (a_1.getD (t12) 0)).toNat)) &&& BitVec.ofInt 64 (b.Care.getD (t12) 0)).toNat)) != 0) then
      (.inr (({ Value := [0, 0, 0, 0, 0, 0, 0, 0, 0, 0, 0, 0], Care := [0, 0, 0, 0, 0, 0, 0, 0, 0, 0, 0, 0] } : Cube), false))
    else
      cube_Meet_l0s b rest (t12 + 1) (a_0.set (t12) (IntKind.u64.wrap ((BitVec.ofInt 64 (a_0.getD (t12) 0) ||| BitVec.ofInt 64 (b.Value.getD (t12) 0)).toNat))) (a_1.set (t12) (IntKind.u64.wrap ((BitVec.ofInt 64 (a_1.getD (t12) 0) ||| BitVec.ofInt 64 (b.Care.getD (t12) 0)).toNat))))
theorem cube_Meet_l0_walk (a : Cube) (b : Cube) (r : Cube × Bool) (c0 : Ctx) (hc0 : c0.m.length = 0) (res : Sum ((List Int) × (List Int)) (Cube × Bool)) (J : ∀ w : (List Int) × (List Int), res = .inl w → AX Try.prog tab cube_Meet_F c0 (Rp tab.S c0 (.tup [Cube.av r.1, .sc (.bool r.2)]) []) (some ⟨[.code [1, 1, 1]], [(2, .ptr 0 0 none), (4, .ptr 2 0 none)], [.box 31 [.arr .u64 12 w.1, .arr .u64 12 w.2], .box 31 (Cube.ch b), .box 31 [.arr .u64 12 [0, 0, 0, 0, 0, 0, 0, 0, 0, 0, 0, 0], .arr .u64 12 [0, 0, 0, 0, 0, 0, 0, 0, 0, 0, 0, 0]]]⟩)) (Jr : ∀ w, res = .inr w → w = r) :
    ∀ (rest : Nat) (t12 : Nat) (z : Int) (hI : z = ((t12 : Nat) : Int)) (hd : t12 + rest = 12) (a_0 : List Int) (a_1 : List Int) (H : cube_Meet_l0s b rest t12 a_0 a_1 = res), AX Try.prog tab cube_Meet_F c0 (Rp tab.S c0 (.tup [Cube.av r.1, .sc (.bool r.2)]) []) (some ⟨[.code [1, 1, 0, 1, 0, 0], .loop [1, 1, 0, 1, 0], .blk 0, .code [1, 1, 1]], [(2, .ptr 0 0 none), (3, .ptr 1 0 none), (4, .ptr 2 0 none), (12, .sc (.int .i64 z))], [.box 31 [.arr .u64 12 a_0, .arr .u64 12 a_1], .box 31 (Cube.ch b), .box 31 [.arr .u64 12 [0, 0, 0, 0, 0, 0, 0, 0, 0, 0, 0, 0], .arr .u64 12 [0, 0, 0, 0, 0, 0, 0, 0, 0, 0, 0, 0]]]⟩) := by
  intro rest
  induction rest with
  | zero =>
    intro t12 z hI hd a_0 a_1 H
    subst hI
    rw [cube_Meet_l0s] at H
    have hc : (decide (((t12 : Nat) : Int) < 12)) = false := decide_eq_false (by omega)
    exact .sg 3 [2,3,4,12,13] (.cdF hc (.sg 1 [2,4] (.kp [2,4] (.to (J (a_0, a_1) H.symm)))))
  | succ rest ih =>
    intro t12 z hI hd a_0 a_1 H
    subst hI
    rw [cube_Meet_l0s] at H
    have hlt_t12 : t12 < 12 := by omega
    have hc : (decide (((t12 : Nat) : Int) < 12)) = true := decide_eq_true (by omega)
    have hw : IntKind.i64.wrap (((t12 : Nat) : Int) + 1) = ((t12 + 1 : Nat) : Int) := wrapI_succ (by omega)
    refine .sg 3 [2,3,4,12,13] (.cdT hc (.sg 7 [2,3,4,6,12] (.rg (.sg 2 [2,3,4,6,12,15,16] ?_))))
    have hreq := idx_in 12 hlt_t12 (by decide)
    refine .xa [2,3,4,6,12,17] hreq (.sg 3 [2,3,4,6,12,18,19,20] ?_)
    have hreq := idx_in 12 hlt_t12 (by decide)
    refine .xa [2,3,4,6,12,18,21] hreq (.sg 4 [2,3,4,6,12,23,24,25] ?_)
    have hreq := idx_in 12 hlt_t12 (by decide)
    refine .xa [2,3,4,6,12,23,26] hreq (.sg 4 [2,3,4,6,12,28,29,30] ?_)
    have hreq := idx_in 12 hlt_t12 (by decide)
    refine .xa [2,3,4,6,12,28,31] hreq (.sg 3 [2,3,4,6,12,34] (.dn (.cd ((IntKind.u64.wrap ((BitVec.ofInt 64 (IntKind.u64.wrap ((BitVec.ofInt 64 (IntKind.u64.wrap ((BitVec.ofInt 64 (a_0.getD (t12) 0) ^^^ BitVec.ofInt 64 (b.Value.getD (t12) 0)).toNat)) &&& BitVec.ofInt 64 (a_1.getD (t12) 0)).toNat)) &&& BitVec.ofInt 64 (b.Care.getD (t12) 0)).toNat)) != 0) H (fun hb H => ?_) (fun hb H => ?_))))
    ·
      refine .sg 2 [4,5] ?_
      subst H
      obtain rfl := Jr _ rfl
      exact .ret Try.func43 hc0
    ·
      refine .sg 2 [2,3,4,6,12] (.rg (.sg 2 [2,3,4,6,12,36,37] ?_))
      have hreq := idx_in 12 hlt_t12 (by decide)
      refine .xa [2,3,4,6,12,36,38] hreq (.sg 3 [2,3,4,6,12,36,39,40,41] ?_)
      have hreq := idx_in 12 hlt_t12 (by decide)
      refine .xa [2,3,4,6,12,36,39,42] hreq (.sg 3 [2,3,4,6,12,36,44,45] ?_)
      have hreq := idx_in 12 hlt_t12 (by decide)
      refine .xa [2,3,4,6,12,44,46] hreq (.sg 1 [2,3,4,6,12] (.dn (.rg (.sg 2 [2,3,4,6,12,47,48] ?_))))
      have hreq := idx_in 12 hlt_t12 (by decide)
      refine .xa [2,3,4,6,12,47,49] hreq (.sg 3 [2,3,4,12,47,50,51,52] ?_)
      have hreq := idx_in 12 hlt_t12 (by decide)
      refine .xa [2,3,4,12,47,50,53] hreq (.sg 3 [2,3,4,12,47,55,56] ?_)
      have hreq := idx_in 12 hlt_t12 (by decide)
      exact .xa [2,3,4,12,55,57] hreq (.sg 1 [2,3,4,12] (.dn (.sg 2 [2,3,4,12] (.kp [2,3,4,12] (.into (.cl (ih (t12 + 1) _ hw (by omega) (a_0.set (t12) (IntKind.u64.wrap ((BitVec.ofInt 64 (a_0.getD (t12) 0) ||| BitVec.ofInt 64 (b.Value.getD (t12) 0)).toNat))) (a_1.set (t12) (IntKind.u64.wrap ((BitVec.ofInt 64 (a_1.getD (t12) 0) ||| BitVec.ofInt 64 (b.Care.getD (t12) 0)).toNat))) H)))))))

def cube_Meet (a : Cube) (b : Cube) : Cube × Bool :=
  (bif (!(cube_both a b)) then
    (({ Value := [0, 0, 0, 0, 0, 0, 0, 0, 0, 0, 0, 0], Care := [0, 0, 0, 0, 0, 0, 0, 0, 0, 0, 0, 0] } : Cube), false)
  else
    sumG (fun q => q) (cube_Meet_l0s b 12 0 a.Value a.Care) fun v =>
    (({ Value := v.1, Care := v.2 } : Cube), true))
theorem cube_Meet_calls (a : Cube) (b : Cube) : ACalls Try.prog tab.S 43 [Cube.av a, Cube.av b] [] (.tup [Cube.av ((cube_Meet a b).1), .sc (.bool ((cube_Meet a b).2))]) [] := by
  generalize H : cube_Meet a b = r
  refine .of_AX cube_Meet_F Try.func43 fun c0 hc0 => ?_
  rw [cube_Meet] at H
  refine .sg 4 [2,3,4] (.rg (.sg 2 [2,3,4,7,8] (.cp [2,3,4,9] (cube_both_calls a b) (.sg 1 [2,3,4,10] (.dn (.cd (!(cube_both a b)) H (fun hb H => ?_) (fun hb H => ?_)))))))
  ·
    refine .sg 2 [4,5] ?_
    subst H
    exact .ret Try.func43 hc0
  ·
    refine .sg 5 [2,3,4,12] ?_
    rcases sumG_eq H with ⟨v, hv, H⟩ | ⟨r1, hv, hr1⟩
    case inr =>
      refine .into ?_
      replace hr1 : r1 = r := hr1
      subst hr1
      exact .to (cube_Meet_l0_walk a b _ c0 hc0 (.inr _) (fun _ e => by cases e) (fun _ e => (Sum.inr.inj e).symm) 12 0 _ rfl rfl a.Value a.Care hv)
    refine .into (.to (cube_Meet_l0_walk a b r c0 hc0 (.inl v) (fun w e => ?_) (fun _ e => by cases e) 12 0 _ rfl rfl a.Value a.Care hv))
    have e := Sum.inl.inj e
    subst e
    refine .sg 2 [4,5] ?_
    subst H
    exact .ret Try.func43 hc0

/-! ### rule.Overlap: function 20 -/
noncomputable def rule_Overlap_F : Go.Sh.Fn := ⟨20, bodyOf Try.f20, 23⟩
def rule_Overlap (a : Rule) (b : Rule) : Bool :=
  ((cube_Meet a.Match b.Match).2 && (a.Prio == b.Prio))
theorem rule_Overlap_calls (a : Rule) (b : Rule) : ACalls Try.prog tab.S 20 [Rule.av a, Rule.av b] [] (.sc (.bool (rule_Overlap a b))) [] := by
  generalize H : rule_Overlap a b = r
  refine .of_AX rule_Overlap_F Try.func20 fun c0 hc0 => ?_
  rw [rule_Overlap] at H
  refine .sg 3 [2,3] (.rg (.sg 4 [2,3,9,11] (.cp [2,3,12] (cube_Meet_calls a.Match b.Match) (.sg 6 [2,3,6] (.dn (.sg 1 [2,3,6] (.rg (.sg 2 [2,3,16] (.mx 0 [22] (.sg 1 [4] (.dn ?_)))))))))))
  subst H
  exact .ret Try.func20 hc0

/-! ### podestaref01.From: function 62 -/
noncomputable def podestaref01_From_F : Go.Sh.Fn := ⟨62, bodyOf Try.f62, 58⟩
def podestaref01_From_l1 (s : ByteArray) (i : Nat) : Nat → Int → Int → List Int → List Int → Option (Int × (List Int) × (List Int))
  | 0, _, _, _, _ => none
  | m + 1, at_1, k1, c_01, c_11 =>
    (bif (decide (k1 < (sizeT ((i : Nat) : Int)))) then
    reqO (decide (0 ≤ at_1) && decide (at_1 < ((s.size : Nat) : Int))) (
    (bif ((byteAt s at_1) != 120) then
      reqO (decide (0 ≤ at_1) && decide (at_1 < ((s.size : Nat) : Int))) (
      (bif ((byteAt s at_1) == 49) then
        podestaref01_From_l1 s i m (IntKind.i64.wrap (at_1 + 1)) (IntKind.i64.wrap (k1 + 1)) ((c_01.set (i) (IntKind.u64.wrap ((c_01.getD (i) 0) * 2))).set (i) (IntKind.u64.wrap (((c_01.set (i) (IntKind.u64.wrap ((c_01.getD (i) 0) * 2))).getD (i) 0) + 1))) ((c_11.set (i) (IntKind.u64.wrap ((c_11.getD (i) 0) * 2))).set (i) (IntKind.u64.wrap (((c_11.set (i) (IntKind.u64.wrap ((c_11.getD (i) 0) * 2))).getD (i) 0) + 1)))
      else
        podestaref01_From_l1 s i m (IntKind.i64.wrap (at_1 + 1)) (IntKind.i64.wrap (k1 + 1)) (c_01.set (i) (IntKind.u64.wrap ((c_01.getD (i) 0) * 2))) ((c_11.set (i) (IntKind.u64.wrap ((c_11.getD (i) 0) * 2))).set (i) (IntKind.u64.wrap (((c_11.set (i) (IntKind.u64.wrap ((c_11.getD (i) 0) * 2))).getD (i) 0) + 1)))))
    else
      reqO (decide (0 ≤ at_1) && decide (at_1 < ((s.size : Nat) : Int))) (
      (bif ((byteAt s at_1) == 49) then
        podestaref01_From_l1 s i m (IntKind.i64.wrap (at_1 + 1)) (IntKind.i64.wrap (k1 + 1)) ((c_01.set (i) (IntKind.u64.wrap ((c_01.getD (i) 0) * 2))).set (i) (IntKind.u64.wrap (((c_01.set (i) (IntKind.u64.wrap ((c_01.getD (i) 0) * 2))).getD (i) 0) + 1))) (c_11.set (i) (IntKind.u64.wrap ((c_11.getD (i) 0) * 2)))
      else
        podestaref01_From_l1 s i m (IntKind.i64.wrap (at_1 + 1)) (IntKind.i64.wrap (k1 + 1)) (c_01.set (i) (IntKind.u64.wrap ((c_01.getD (i) 0) * 2))) (c_11.set (i) (IntKind.u64.wrap ((c_11.getD (i) 0) * 2)))))))
  else
    some (at_1, c_01, c_11))
theorem podestaref01_From_l1_walk (q1 : Nat) (s : ByteArray) (i : Nat) (at_ : Int) (c_0 : List Int) (c_1 : List Int) (hlt_i : i < 12)  (r : Cube) (c0 : Ctx) (hc0 : c0.m.length = 0) (res : Int × (List Int) × (List Int)) (J : AX Try.prog tab podestaref01_From_F c0 (Rp tab.S c0 (Cube.av r) []) (some ⟨[.blk 1, .code [1, 1, 1, 0, 1, 0, 0, 1, 1], .loop [1, 1, 1, 0, 1, 0], .blk 0, .code [1, 1, 1, 1]], [(0, .sc (.string s)), (2, .ptr 0 0 none), (3, .ptr 1 0 none), (4, .sc (.int .i64 res.1)), (5, .sc (.int .i64 ((i : Nat) : Int)))], [.box 31 [.arr .u64 12 [0, 0, 0, 0, 0, 0, 0, 0, 0, 0, 0, 0], .arr .u64 12 [0, 0, 0, 0, 0, 0, 0, 0, 0, 0, 0, 0]], .box 31 [.arr .u64 12 res.2.1, .arr .u64 12 res.2.2]]⟩)) :
    ∀ (m : Nat) (at_1 : Int) (k1 : Int) (c_01 : List Int) (c_11 : List Int) (H : podestaref01_From_l1 s i m at_1 k1 c_01 c_11 = some res), AX Try.prog tab podestaref01_From_F c0 (Rp tab.S c0 (Cube.av r) []) (some ⟨[.code [1, 1, 1, 0, 1, 0, 0, 1, 0, 0, 1, 0, 0], .loop [1, 1, 1, 0, 1, 0, 0, 1, 0, 0, 1, 0], .blk 2, .blk 1, .code [1, 1, 1, 0, 1, 0, 0, 1, 1], .loop [1, 1, 1, 0, 1, 0], .blk 0, .code [1, 1, 1, 1]], [(0, .sc (.string s)), (2, .ptr 0 0 none), (3, .ptr 1 0 none), (4, .sc (.int .i64 at_1)), (5, .sc (.int .i64 ((i : Nat) : Int))), (6, .sc (.int .i64 k1))], [.box 31 [.arr .u64 12 [0, 0, 0, 0, 0, 0, 0, 0, 0, 0, 0, 0], .arr .u64 12 [0, 0, 0, 0, 0, 0, 0, 0, 0, 0, 0, 0]], .box 31 [.arr .u64 12 c_01, .arr .u64 12 c_11]]⟩) := by
  intro m
  induction m with
  | zero => intro at_1 k1 c_01 c_11 H; cases H
  | succ m ih =>
    intro at_1 k1 c_01 c_11 H
    rw [podestaref01_From_l1] at H
    refine .sg 2 [0,2,3,4,5,6] (.rg (.sg 2 [0,2,3,4,5,6,11,12] (.cp [0,2,3,4,5,6,11,13] (podestaref01_Size_ok ((i : Nat) : Int)) (.sg 1 [0,2,3,4,5,6,14] (.dn (.cd (decide (k1 < (sizeT ((i : Nat) : Int)))) H (fun hb H => ?_) (fun hb H => ?_)))))))
    ·
      refine .sg 4 [0,2,3,4,5,6] (.rg (.sg 3 [0,2,3,4,5,6,17,18,19] ?_))
      have hreq := idx_in 12 hlt_i (by decide)
      refine .xa [0,2,3,4,5,6,17,20] hreq (.sg 3 [0,2,3,4,5,6,17,22,23] ?_)
      have hreq := idx_in 12 hlt_i (by decide)
      refine .xa [0,2,3,4,5,6,22,24] hreq (.sg 1 [0,2,3,4,5,6] (.dn (.sg 1 [0,2,3,4,5,6] (.rg (.sg 3 [0,2,3,4,5,6,25,26,27] ?_)))))
      have hreq := idx_in 12 hlt_i (by decide)
      refine .xa [0,2,3,4,5,6,25,28] hreq (.sg 3 [0,2,3,4,5,6,25,30,31] ?_)
      have hreq := idx_in 12 hlt_i (by decide)
      refine .xa [0,2,3,4,5,6,30,32] hreq (.sg 1 [0,2,3,4,5,6] (.dn (.sg 2 [0,2,3,4,5,6] (.rg (.sg 2 [0,2,3,4,5,6,33,34] (reqH H fun hreq H => (.xs [0,2,3,4,5,6,35] hreq (.sg 1 [0,2,3,4,5,6,36] (.dn (.cd ((byteAt s at_1) != 120) H (fun hb H => ?_) (fun hb H => ?_)))))))))))
      ·
        refine .rg (.sg 2 [0,2,3,4,5,6,37,38] ?_)
        have hreq := idx_in 12 hlt_i (by decide)
        refine .xa [0,2,3,4,5,6,37,39] hreq (.sg 3 [0,2,3,4,5,6,37,41,42] ?_)
        have hreq := idx_in 12 hlt_i (by decide)
        refine .xa [0,2,3,4,5,6,41,43] hreq (.sg 1 [0,2,3,4,5,6] (.dn (.sg 2 [0,2,3,4,5,6] (.rg (.sg 2 [0,2,3,4,5,6,44,45] (reqH H fun hreq H => (.xs [0,2,3,4,5,6,46] hreq (.sg 1 [0,2,3,4,5,6,47] (.dn (.cd ((byteAt s at_1) == 49) H (fun hb H => ?_) (fun hb H => ?_)))))))))))
        ·
          refine .rg (.sg 2 [0,2,3,4,5,6,48,49] ?_)
          have hreq := idx_in 12 hlt_i (by decide)
          refine .xa [0,2,3,4,5,6,48,50] hreq (.sg 3 [0,2,3,4,5,6,48,52,53] ?_)
          have hreq := idx_in 12 hlt_i (by decide)
          exact .xa [0,2,3,4,5,6,52,54] hreq (.sg 1 [0,2,3,4,5,6] (.dn (.sg 3 [0,2,3,4,5,6] (.kp [0,2,3,4,5,6] (.into (.to (ih (IntKind.i64.wrap (at_1 + 1)) (IntKind.i64.wrap (k1 + 1)) ((c_01.set (i) (IntKind.u64.wrap ((c_01.getD (i) 0) * 2))).set (i) (IntKind.u64.wrap (((c_01.set (i) (IntKind.u64.wrap ((c_01.getD (i) 0) * 2))).getD (i) 0) + 1))) ((c_11.set (i) (IntKind.u64.wrap ((c_11.getD (i) 0) * 2))).set (i) (IntKind.u64.wrap (((c_11.set (i) (IntKind.u64.wrap ((c_11.getD (i) 0) * 2))).getD (i) 0) + 1))) H)))))))
        ·
          exact .sg 4 [0,2,3,4,5,6] (.kp [0,2,3,4,5,6] (.into (.to (ih (IntKind.i64.wrap (at_1 + 1)) (IntKind.i64.wrap (k1 + 1)) (c_01.set (i) (IntKind.u64.wrap ((c_01.getD (i) 0) * 2))) ((c_11.set (i) (IntKind.u64.wrap ((c_11.getD (i) 0) * 2))).set (i) (IntKind.u64.wrap (((c_11.set (i) (IntKind.u64.wrap ((c_11.getD (i) 0) * 2))).getD (i) 0) + 1))) H))))
      ·
        refine .sg 3 [0,2,3,4,5,6] (.rg (.sg 2 [0,2,3,4,5,6,44,45] (reqH H fun hreq H => (.xs [0,2,3,4,5,6,46] hreq (.sg 1 [0,2,3,4,5,6,47] (.dn (.cd ((byteAt s at_1) == 49) H (fun hb H => ?_) (fun hb H => ?_))))))))
        ·
          refine .rg (.sg 2 [0,2,3,4,5,6,48,49] ?_)
          have hreq := idx_in 12 hlt_i (by decide)
          refine .xa [0,2,3,4,5,6,48,50] hreq (.sg 3 [0,2,3,4,5,6,48,52,53] ?_)
          have hreq := idx_in 12 hlt_i (by decide)
          exact .xa [0,2,3,4,5,6,52,54] hreq (.sg 1 [0,2,3,4,5,6] (.dn (.sg 3 [0,2,3,4,5,6] (.kp [0,2,3,4,5,6] (.into (.to (ih (IntKind.i64.wrap (at_1 + 1)) (IntKind.i64.wrap (k1 + 1)) ((c_01.set (i) (IntKind.u64.wrap ((c_01.getD (i) 0) * 2))).set (i) (IntKind.u64.wrap (((c_01.set (i) (IntKind.u64.wrap ((c_01.getD (i) 0) * 2))).getD (i) 0) + 1))) (c_11.set (i) (IntKind.u64.wrap ((c_11.getD (i) 0) * 2))) H)))))))
        ·
          exact .sg 4 [0,2,3,4,5,6] (.kp [0,2,3,4,5,6] (.into (.to (ih (IntKind.i64.wrap (at_1 + 1)) (IntKind.i64.wrap (k1 + 1)) (c_01.set (i) (IntKind.u64.wrap ((c_01.getD (i) 0) * 2))) (c_11.set (i) (IntKind.u64.wrap ((c_11.getD (i) 0) * 2))) H))))
    ·
      refine .sg 1 [0,2,3,4,5] (.kp [0,2,3,4,5] ?_)
      obtain rfl := Option.some.inj H
      exact .to J
def podestaref01_From_l0s (q1 : Nat) (s : ByteArray) : Nat → Nat → Int → List Int → List Int → Option ((List Int) × (List Int))
  | 0, i, at_, c_0, c_1 =>
    some (c_0, c_1)
  | rest + 1, i, at_, c_0, c_1 =>
    (podestaref01_From_l1 s i q1 at_ 0 c_0 c_1).bind fun v =>
    podestaref01_From_l0s q1 s rest (i + 1) v.1 v.2.1 v.2.2
theorem podestaref01_From_l0_walk (q1 : Nat) (s : ByteArray) (r : Cube) (c0 : Ctx) (hc0 : c0.m.length = 0) (res : (List Int) × (List Int)) (J : AX Try.prog tab podestaref01_From_F c0 (Rp tab.S c0 (Cube.av r) []) (some ⟨[.code [1, 1, 1, 1]], [(2, .ptr 0 0 none), (3, .ptr 1 0 none)], [.box 31 [.arr .u64 12 [0, 0, 0, 0, 0, 0, 0, 0, 0, 0, 0, 0], .arr .u64 12 [0, 0, 0, 0, 0, 0, 0, 0, 0, 0, 0, 0]], .box 31 [.arr .u64 12 res.1, .arr .u64 12 res.2]]⟩)) :
    ∀ (rest : Nat) (i : Nat) (z : Int) (hI : z = ((i : Nat) : Int)) (hd : i + rest = 12) (at_ : Int) (c_0 : List Int) (c_1 : List Int) (H : podestaref01_From_l0s q1 s rest i at_ c_0 c_1 = some res), AX Try.prog tab podestaref01_From_F c0 (Rp tab.S c0 (Cube.av r) []) (some ⟨[.code [1, 1, 1, 0, 1, 0, 0], .loop [1, 1, 1, 0, 1, 0], .blk 0, .code [1, 1, 1, 1]], [(0, .sc (.string s)), (2, .ptr 0 0 none), (3, .ptr 1 0 none), (4, .sc (.int .i64 at_)), (5, .sc (.int .i64 z))], [.box 31 [.arr .u64 12 [0, 0, 0, 0, 0, 0, 0, 0, 0, 0, 0, 0], .arr .u64 12 [0, 0, 0, 0, 0, 0, 0, 0, 0, 0, 0, 0]], .box 31 [.arr .u64 12 c_0, .arr .u64 12 c_1]]⟩) := by
  intro rest
  induction rest with
  | zero =>
    intro i z hI hd at_ c_0 c_1 H
    subst hI
    rw [podestaref01_From_l0s] at H
    have hc : (decide (((i : Nat) : Int) < 12)) = false := decide_eq_false (by omega)
    refine .sg 3 [0,2,3,4,5,8] (.cdF hc (.sg 1 [2,3] (.kp [2,3] ?_)))
    obtain rfl := Option.some.inj H
    exact .to J
  | succ rest ih =>
    intro i z hI hd at_ c_0 c_1 H
    subst hI
    rw [podestaref01_From_l0s] at H
    have hlt_i : i < 12 := by omega
    have hc : (decide (((i : Nat) : Int) < 12)) = true := decide_eq_true (by omega)
    have hw : IntKind.i64.wrap (((i : Nat) : Int) + 1) = ((i + 1 : Nat) : Int) := wrapI_succ (by omega)
    refine .sg 3 [0,2,3,4,5,8] (.cdT hc (.sg 6 [0,2,3,4,5,6] ?_))
    refine bndO H fun v hv H => (.into (.to (podestaref01_From_l1_walk q1 s i at_ c_0 c_1 hlt_i r c0 hc0 v ?_ q1 at_ 0 c_0 c_1 hv)))
    exact .sg 2 [0,2,3,4,5] (.kp [0,2,3,4,5] (.into (.cl (ih (i + 1) _ hw (by omega) v.1 v.2.1 v.2.2 H))))

def podestaref01_From_raw (q1 : Nat) (s : ByteArray) : Option (Cube) :=
  (podestaref01_From_l0s q1 s 12 0 0 [0, 0, 0, 0, 0, 0, 0, 0, 0, 0, 0, 0] [0, 0, 0, 0, 0, 0, 0, 0, 0, 0, 0, 0]).bind fun v =>
  some ({ Value := v.1, Care := v.2 } : Cube)
theorem podestaref01_From_walk (q1 : Nat) (s : ByteArray) (r : Cube) (H : podestaref01_From_raw q1 s = some r) : ACalls Try.prog tab.S 62 [.sc (.string s)] [] (Cube.av r) [] := by
  refine .of_AX podestaref01_From_F Try.func62 fun c0 hc0 => ?_
  rw [podestaref01_From_raw] at H
  refine .sg 10 [0,2,3,4,5] ?_
  refine bndO H fun v hv H => (.into (.to (podestaref01_From_l0_walk q1 s r c0 hc0 v ?_ 12 0 _ rfl rfl 0 [0, 0, 0, 0, 0, 0, 0, 0, 0, 0, 0, 0] [0, 0, 0, 0, 0, 0, 0, 0, 0, 0, 0, 0] hv)))
  refine .sg 2 [2] ?_
  obtain rfl := Option.some.inj H
  exact .ret Try.func62 hc0

/-! ### podestaref01.Meet: function 44 -/
noncomputable def podestaref01_Meet_F : Go.Sh.Fn := ⟨44, bodyOf Try.f44, 64⟩
def podestaref01_Meet_l0 (a : Cube) (b : Cube) : Nat → Int → List Int → Option (Sum ((List Int)) (Cube × Bool))
  | 0, _, _ => none
  | m + 1, i, out =>
    (bif (decide (i < ((((textT a).1).size : Nat) : Int))) then
    reqO (decide (0 ≤ i) && decide (i < ((((textT a).1).size : Nat) : Int))) (
    (bif ((byteAt ((textT a).1) i) == 120) then
      reqO (decide (0 ≤ i) && decide (i < ((((textT b).1).size : Nat) : Int))) (
      (ixO out i).bind fun x =>
      podestaref01_Meet_l0 a b m (IntKind.i64.wrap (i + 1)) (out.set i.toNat (byteAt ((textT b).1) i)))
    else
      reqO (decide (0 ≤ i) && decide (i < ((((textT b).1).size : Nat) : Int))) (
      (bif ((byteAt ((textT b).1) i) != 120) then
        reqO (decide (0 ≤ i) && decide (i < ((((textT a).1).size : Nat) : Int))) (
        reqO (decide (0 ≤ i) && decide (i < ((((textT b).1).size : Nat) : Int))) (
        (bif ((byteAt ((textT a).1) i) != (byteAt ((textT b).1) i)) then
          some (.inr (({ Value := [0, 0, 0, 0, 0, 0, 0, 0, 0, 0, 0, 0], Care := [0, 0, 0, 0, 0, 0, 0, 0, 0, 0, 0, 0] } : Cube), false))
        else
          podestaref01_Meet_l0 a b m (IntKind.i64.wrap (i + 1)) out)))
      else
        podestaref01_Meet_l0 a b m (IntKind.i64.wrap (i + 1)) out))))
  else
    some (.inl out))
theorem podestaref01_Meet_l0_walk (q0 : Nat) (a : Cube) (b : Cube)  (r : Cube × Bool) (c0 : Ctx) (hc0 : c0.m.length = 0) (res : Sum ((List Int)) (Cube × Bool)) (J : ∀ w : (List Int), res = .inl w → AX Try.prog tab podestaref01_Meet_F c0 (Rp tab.S c0 (.tup [Cube.av r.1, .sc (.bool r.2)]) []) (some ⟨[.code [1, 1, 1, 1, 1, 1]], [(4, .ptr 2 0 none), (10, .own 3 2000000)], [.box 31 (Cube.ch a), .box 31 (Cube.ch b), .box 31 [.arr .u64 12 [0, 0, 0, 0, 0, 0, 0, 0, 0, 0, 0, 0], .arr .u64 12 [0, 0, 0, 0, 0, 0, 0, 0, 0, 0, 0, 0]], .row 5 (List.map (intA .u8) w) 2000000 true]⟩)) (Jr : ∀ w, res = .inr w → w = r) :
    ∀ (m : Nat) (i : Int) (out : List Int) (H : podestaref01_Meet_l0 a b m i out = some res), AX Try.prog tab podestaref01_Meet_F c0 (Rp tab.S c0 (.tup [Cube.av r.1, .sc (.bool r.2)]) []) (some ⟨[.code [1, 1, 1, 1, 1, 0, 1, 0, 0], .loop [1, 1, 1, 1, 1, 0, 1, 0], .blk 0, .code [1, 1, 1, 1, 1, 1]], [(4, .ptr 2 0 none), (6, .sc (.string ((textT a).1))), (8, .sc (.string ((textT b).1))), (10, .own 3 2000000), (11, .sc (.int .i64 i))], [.box 31 (Cube.ch a), .box 31 (Cube.ch b), .box 31 [.arr .u64 12 [0, 0, 0, 0, 0, 0, 0, 0, 0, 0, 0, 0], .arr .u64 12 [0, 0, 0, 0, 0, 0, 0, 0, 0, 0, 0, 0]], .row 5 (List.map (intA .u8) out) 2000000 true]⟩) := by
  intro m
  induction m with
  | zero => intro i out H; cases H
  | succ m ih =>
    intro i out H
    rw [podestaref01_Meet_l0] at H
    refine .sg 3 [4,6,8,10,11,34] (.cd (decide (i < ((((textT a).1).size : Nat) : Int))) H (fun hb H => ?_) (fun hb H => ?_))
    ·
      refine .sg 4 [4,6,8,10,11] (.rg (.sg 2 [4,6,8,10,11,37,38] (reqH H fun hreq H => (.xs [4,6,8,10,11,39] hreq (.sg 1 [4,6,8,10,11,40] (.dn (.cd ((byteAt ((textT a).1) i) == 120) H (fun hb H => ?_) (fun hb H => ?_))))))))
      ·
        exact .rg (.sg 4 [4,6,8,10,11,41,42,43,44] (reqH H fun hreq H => (.xs [4,6,8,10,11,41,42,45] hreq (bndO H fun x hv_x H => (.xo [4,6,8,10,11,45,46] (ixO_req hv_x (intA .u8)) (.st [4,6,8,10,11] (intA .u8) (byteAt ((textT b).1) i) (ixO_map hv_x (intA .u8)).2 (.dn (.sg 2 [4,6,8,10,11] (.kp [4,6,8,10,11] (.into (.to (ih (IntKind.i64.wrap (i + 1)) (out.set i.toNat (byteAt ((textT b).1) i)) H))))))))))))
      ·
        refine .sg 1 [4,6,8,10,11] (.rg (.sg 2 [4,6,8,10,11,47,48] (reqH H fun hreq H => (.xs [4,6,8,10,11,49] hreq (.sg 2 [4,6,8,10,11,51] (.sp 51 ((byteAt ((textT b).1) i) != 120) H (fun hb H => ?_) (fun hb H => ?_)))))))
        ·
          refine .sg 2 [4,6,8,10,11,51,52,53] (reqH H fun hreq H => (.xs [4,6,8,10,11,51,54] hreq (.sg 2 [4,6,8,10,11,51,54,55,56] (reqH H fun hreq H => (.xs [4,6,8,10,11,51,54,57] hreq (.sg 2 [4,6,8,10,11,59] (.dn (.cd ((byteAt ((textT a).1) i) != (byteAt ((textT b).1) i)) H (fun hb H => ?_) (fun hb H => ?_)))))))))
          ·
            refine .sg 2 [4,5] ?_
            obtain rfl := Option.some.inj H
            obtain rfl := Jr _ rfl
            exact .ret Try.func44 hc0
          ·
            exact .sg 3 [4,6,8,10,11] (.kp [4,6,8,10,11] (.into (.to (ih (IntKind.i64.wrap (i + 1)) out H))))
        ·
          exact .sg 8 [4,6,8,10,11,59] (.dn (.sg 4 [4,6,8,10,11] (.kp [4,6,8,10,11] (.into (.to (ih (IntKind.i64.wrap (i + 1)) out H))))))
    ·
      exact .sg 1 [4,10] (.kp [4,10] (.to (J out (Option.some.inj H).symm)))
def podestaref01_Meet_raw (q0 : Nat) (a : Cube) (b : Cube) : Option (Cube × Bool) :=
  (bif ((!(textT a).2) || (!(textT b).2)) then
    some (({ Value := [0, 0, 0, 0, 0, 0, 0, 0, 0, 0, 0, 0], Care := [0, 0, 0, 0, 0, 0, 0, 0, 0, 0, 0, 0] } : Cube), false)
  else
    fitO (((textT a).1).size) 1 (
    loopO (podestaref01_Meet_l0 a b q0 0 (numsOf ((textT a).1))) fun v =>
    (podestaref01_From_raw 100 (strOfNums v)).bind fun x =>
    some (x, true)))
theorem podestaref01_Meet_walk (q0 : Nat) (a : Cube) (b : Cube) (r : Cube × Bool) (H : podestaref01_Meet_raw q0 a b = some r) : ACalls Try.prog tab.S 44 [Cube.av a, Cube.av b] [] (.tup [Cube.av r.1, .sc (.bool r.2)]) [] := by
  refine .of_AX podestaref01_Meet_F Try.func44 fun c0 hc0 => ?_
  rw [podestaref01_Meet_raw] at H
  refine .sg 3 [2,3,4] (.rg (.sg 1 [3,4,13] (.cp [3,4,14] (podestaref01_Text_ok a) (.sg 5 [3,4,6,7] (.dn (.sg 1 [3,4,6,7] (.rg (.sg 1 [4,6,7,18] (.cp [4,6,7,19] (podestaref01_Text_ok b) (.sg 5 [4,6,7,8,9] (.dn (.sg 2 [4,6,7,8,9] (.rg (.sg 3 [4,6,8,9,24] (.mx 1 [4,6,8,27] (.dn (.cd ((!(textT a).2) || (!(textT b).2)) H (fun hb H => ?_) (fun hb H => ?_))))))))))))))))))
  ·
    refine .sg 2 [4,5] ?_
    obtain rfl := Option.some.inj H
    exact .ret Try.func44 hc0
  ·
    refine .sg 2 [4,6,8] (.rg (.sg 1 [4,6,8,29] (fitH H fun hfit H => (.sb [4,6,8,30] hfit (.sg 1 [4,6,8,10] (.dn (.sg 4 [4,6,8,10,11] ?_)))))))
    rcases loopO_some H with ⟨v, hv, H⟩ | hv
    case inr =>
      exact .into (.to (podestaref01_Meet_l0_walk q0 a b r c0 hc0 (.inr r) (fun _ e => by cases e) (fun _ e => (Sum.inr.inj e).symm) q0 0 (numsOf ((textT a).1)) hv))
    refine .into (.to (podestaref01_Meet_l0_walk q0 a b r c0 hc0 (.inl v) (fun w e => ?_) (fun _ e => by cases e) q0 0 (numsOf ((textT a).1)) hv))
    have e := Sum.inl.inj e
    subst e
    refine .sg 1 [4,10] (.rg (.sg 1 [4,61] (.by_ [4,62] v (bndO H fun x hv H => (.cp [4,63] ((podestaref01_From_walk 100) (strOfNums v) x hv) (.sg 2 [4,5] (.dn ?_)))))))
    obtain rfl := Option.some.inj H
    exact .ret Try.func44 hc0

/-! ### podestaref04.Overlap: function 21 -/
noncomputable def podestaref04_Overlap_F : Go.Sh.Fn := ⟨21, bodyOf Try.f21, 23⟩
def podestaref04_Overlap_raw (a : Rule) (b : Rule) : Option (Bool) :=
  (podestaref01_Meet_raw 1000 a.Match b.Match).bind fun x =>
  some ((a.Prio == b.Prio) && x.2)
theorem podestaref04_Overlap_walk (a : Rule) (b : Rule) (r : Bool) (H : podestaref04_Overlap_raw a b = some r) : ACalls Try.prog tab.S 21 [Rule.av a, Rule.av b] [] (.sc (.bool r)) [] := by
  refine .of_AX podestaref04_Overlap_F Try.func21 fun c0 hc0 => ?_
  rw [podestaref04_Overlap_raw] at H
  refine .sg 3 [2,3] (.rg (.sg 4 [2,3,9,11] (bndO H fun x hv H => (.cp [2,3,12] ((podestaref01_Meet_walk 1000) a.Match b.Match x hv) (.sg 6 [2,3,6] (.dn (.sg 1 [2,3,6] (.rg (.sg 6 [6,20] (.mx 0 [22] (.sg 1 [4] (.dn ?_))))))))))))
  obtain rfl := Option.some.inj H
  exact .ret Try.func21 hc0

end Go.Proofs.Ytadolbhmdimbkaa

set_option linter.unusedVariables false
set_option linter.unusedSimpArgs false
set_option maxRecDepth 100000
set_option maxHeartbeats 4000000
namespace Go.Proofs.Ytadolbhmdimbkaa
open Go.Sh
/-! ### podestalaw05.RulePairs: function 5 -/
noncomputable def podestalaw05_RulePairs_F : Go.Sh.Fn := ⟨5, bodyOf Try.f5, 71⟩
def podestalaw05_RulePairs_raw (a : Rule) (b : Rule) : Option (Bool) :=
  (bif ((decide ((((List.map Act.av a.Acts).length : Nat) : Int) > 50)) || (decide ((((List.map Act.av b.Acts).length : Nat) : Int) > 50))) then
    some true
  else
    (bif ((((rule_Sound a) == (podestaref04_Rule a)) && ((rule_Key a b) == (podestaref04_Key a b))) && ((rule_Before a b) == (podestaref04_Before a b))) then
      (podestaref04_Overlap_raw a b).bind fun x =>
      some ((((rule_Overlap a b) == x) && ((rule_Overlap a b) == (rule_Overlap b a))) && (!((rule_Before a b) && (rule_Before b a))))
    else
      some false))
theorem podestalaw05_RulePairs_walk (a : Rule) (b : Rule) (r : Bool) (H : podestalaw05_RulePairs_raw a b = some r) : ACalls Try.prog tab.S 5 [Rule.av a, Rule.av b] [] (.sc (.bool r)) [] := by
  refine .of_AX podestalaw05_RulePairs_F Try.func5 fun c0 hc0 => ?_
  rw [podestalaw05_RulePairs_raw] at H
  refine .sg 4 [2,3] (.rg (.sg 5 [2,3,9] (.mx 1 [2,3,14] (.dn (.cd ((decide ((((List.map Act.av a.Acts).length : Nat) : Int) > 50)) || (decide ((((List.map Act.av b.Acts).length : Nat) : Int) > 50))) H (fun hb H => ?_) (fun hb H => ?_))))))
  ·
    refine .sg 1 [] (.rg (.cp [15] (podestalaw05_answers_ok) (.sg 1 [4] (.dn ?_))))
    obtain rfl := Option.some.inj H
    exact .ret Try.func5 hc0
  ·
    refine .sg 2 [2,3] (.rg (.cp [2,3,16] (podestalaw05_answers_ok) (.sg 2 [2,3,17,18] (.cp [2,3,17,19] (rule_Sound_calls a) (.sg 1 [2,3,17,19,20] (.cp [2,3,17,19,21] (podestaref04_Rule_calls a) (.sg 3 [2,3,24] (.mm 24 ((rule_Sound a) == (podestaref04_Rule a)) 8 [.pure, .pure, .pure, .read, .read, .pure, .read, .read] [2, 3, 32] 32 (fun z => .sc (.bool (z && ((rule_Key a b) == (podestaref04_Key a b))))) ?J2 (fun hb J => ?ht2) (fun hb J => ?hf2)))))))))
    case ht2 =>
      exact .sg 2 [2,3,24,25,26] (.cp [2,3,24,27] (rule_Key_calls a b) (.sg 2 [2,3,24,27,28,29] (.cp [2,3,24,27,30] (podestaref04_Key_calls a b) (.sg 2 [2,3,32] (.cl J)))))
    case hf2 =>
      exact .sg 8 [2,3,32] (.cl J)
    refine .sg 1 [2,3,33] (.mm 33 (((rule_Sound a) == (podestaref04_Rule a)) && ((rule_Key a b) == (podestaref04_Key a b))) 8 [.pure, .pure, .pure, .read, .read, .pure, .read, .read] [2, 3, 41] 41 (fun z => .sc (.bool (z && ((rule_Before a b) == (podestaref04_Before a b))))) ?J3 (fun hb J => ?ht3) (fun hb J => ?hf3))
    case ht3 =>
      exact .sg 2 [2,3,33,34,35] (.cp [2,3,33,36] (rule_Before_calls a b) (.sg 2 [2,3,33,36,37,38] (.cp [2,3,33,36,39] (podestaref04_Before_calls a b) (.sg 2 [2,3,41] (.cl J)))))
    case hf3 =>
      exact .sg 8 [2,3,41] (.cl J)
    refine .sg 1 [2,3,42] (.sp 42 ((((rule_Sound a) == (podestaref04_Rule a)) && ((rule_Key a b) == (podestaref04_Key a b))) && ((rule_Before a b) == (podestaref04_Before a b))) H (fun hb H => ?_) (fun hb H => ?_))
    ·
      refine .sg 2 [2,3,42,43,44] (.cp [2,3,42,45] (rule_Overlap_calls a b) (.sg 2 [2,3,42,45,46,47] (bndO H fun x hv H => (.cp [2,3,42,45,48] (podestaref04_Overlap_walk a b x hv) (.sg 3 [2,3,51] (.mm 51 ((rule_Overlap a b) == x) 8 [.pure, .pure, .pure, .read, .read, .pure, .read, .read] [2, 3, 59] 59 (fun z => .sc (.bool (z && ((rule_Overlap a b) == (rule_Overlap b a))))) ?J4 (fun hb J => ?ht4) (fun hb J => ?hf4)))))))
      case ht4 =>
        exact .sg 2 [2,3,51,52,53] (.cp [2,3,51,54] (rule_Overlap_calls a b) (.sg 2 [2,3,51,54,55,56] (.cp [2,3,51,54,57] (rule_Overlap_calls b a) (.sg 2 [2,3,59] (.cl J)))))
      case hf4 =>
        exact .sg 8 [2,3,59] (.cl J)
      refine .sg 1 [2,3,60] (.mm 60 (((rule_Overlap a b) == x) && ((rule_Overlap a b) == (rule_Overlap b a))) 10 [.pure, .pure, .pure, .pure, .read, .read, .pure, .pure, .read, .read] [70] 70 (fun z => .sc (.bool (z && (!((rule_Before a b) && (rule_Before b a)))))) ?J6 (fun hb J => ?ht6) (fun hb J => ?hf6))
      case ht6 =>
        refine .sg 2 [2,3,60,61,62] (.cp [2,3,60,63] (rule_Before_calls a b) (.sg 1 [2,3,60,64] (.mm 64 (rule_Before a b) 4 [.pure, .pure, .read, .read] [60, 68] 68 (fun z => .sc (.bool (z && (rule_Before b a)))) ?J7 (fun hb J => ?ht7) (fun hb J => ?hf7))))
        case ht7 =>
          exact .sg 2 [60,64,65,66] (.cp [60,64,67] (rule_Before_calls b a) (.sg 1 [60,68] (.cl J)))
        case hf7 =>
          exact .sg 4 [60,68] (.cl J)
        exact .sg 2 [70] (.cl J)
      case hf6 =>
        exact .sg 10 [70] (.cl J)
      refine .sg 1 [4] (.dn ?_)
      obtain rfl := Option.some.inj H
      exact .ret Try.func5 hc0
    ·
      refine .sg 29 [4] (.dn ?_)
      obtain rfl := Option.some.inj H
      exact .ret Try.func5 hc0

/-! ### two texts, sign by sign: do they meet; is one within the other -/
def meetL : List Int → List Int → Bool
  | a :: s, b :: t => (((a == 120) || (b == 120)) || (a == b)) && meetL s t
  | _, _ => true
def withL : List Int → List Int → Bool
  | a :: s, b :: t => ((b == 120) || (a == b)) && withL s t
  | _, _ => true
theorem meetL_append : ∀ (a b c d : List Int), a.length = b.length → meetL (a ++ c) (b ++ d) = (meetL a b && meetL c d)
  | [], [], c, d, _ => by rw [List.nil_append, List.nil_append]; show meetL c d = (true && meetL c d); rw [Bool.true_and]
  | [], _ :: _, _, _, h => by cases h
  | _ :: _, [], _, _, h => by cases h
  | x :: a, y :: b, c, d, h => by rw [List.cons_append, List.cons_append, meetL, meetL, meetL_append a b c d (by simpa using h), Bool.and_assoc]
theorem withL_append : ∀ (a b c d : List Int), a.length = b.length → withL (a ++ c) (b ++ d) = (withL a b && withL c d)
  | [], [], c, d, _ => by rw [List.nil_append, List.nil_append]; show withL c d = (true && withL c d); rw [Bool.true_and]
  | [], _ :: _, _, _, h => by cases h
  | _ :: _, [], _, _, h => by cases h
  | x :: a, y :: b, c, d, h => by rw [List.cons_append, List.cons_append, withL, withL, withL_append a b c d (by simpa using h), Bool.and_assoc]
def bitsMeet : List Bool → List Bool → List Bool → List Bool → Bool
  | va :: vs, ca :: cs, vb :: ws, cb :: ds => (((!ca) || (!cb)) || (va == vb)) && bitsMeet vs cs ws ds
  | _, _, _, _ => true
def bitsWith : List Bool → List Bool → List Bool → List Bool → Bool
  | va :: vs, ca :: cs, vb :: ws, cb :: ds => ((!cb) || (ca && (va == vb))) && bitsWith vs cs ws ds
  | _, _, _, _ => true
theorem meetL_bits (v c w d : Int) : ∀ n, meetL (List.zipWith chrB (bitsL v n) (bitsL c n)) (List.zipWith chrB (bitsL w n) (bitsL d n)) = bitsMeet (bitsL v n) (bitsL c n) (bitsL w n) (bitsL d n)
  | 0 => rfl
  | n + 1 => by
    rw [bitsL, bitsL, bitsL, bitsL, List.zipWith_cons_cons, List.zipWith_cons_cons, meetL, bitsMeet, meetL_bits v c w d n]
    cases bitE v n <;> cases bitE c n <;> cases bitE w n <;> cases bitE d n <;> rfl
theorem withL_bits (v c w d : Int) : ∀ n, withL (List.zipWith chrB (bitsL v n) (bitsL c n)) (List.zipWith chrB (bitsL w n) (bitsL d n)) = bitsWith (bitsL v n) (bitsL c n) (bitsL w n) (bitsL d n)
  | 0 => rfl
  | n + 1 => by
    rw [bitsL, bitsL, bitsL, bitsL, List.zipWith_cons_cons, List.zipWith_cons_cons, withL, bitsWith, withL_bits v c w d n]
    cases bitE v n <;> cases bitE c n <;> cases bitE w n <;> cases bitE d n <;> rfl
theorem bitsMeet_iff (v c w d : Int) : ∀ n : Nat, bitsMeet (bitsL v n) (bitsL c n) (bitsL w n) (bitsL d n) = true ↔ ∀ k : Nat, k < n → bitE c (k : Int) = true → bitE d (k : Int) = true → bitE v (k : Int) = bitE w (k : Int)
  | 0 => by simp [bitsL, bitsMeet]
  | n + 1 => by
    rw [bitsL, bitsL, bitsL, bitsL, bitsMeet, Bool.and_eq_true, bitsMeet_iff v c w d n]
    constructor
    · rintro ⟨h1, h2⟩ k hk hc hd
      rcases Nat.lt_or_ge k n with q | q
      · exact h2 k q hc hd
      · have : k = n := by omega
        subst this
        rw [hc, hd] at h1
        simpa using h1
    · intro hh
      refine ⟨?_, fun k hk => hh k (by omega)⟩
      cases hc : bitE c (n : Int)
      · rfl
      · cases hd : bitE d (n : Int)
        · rfl
        · rw [hh n (by omega) hc hd]; simp
theorem bitsWith_iff (v c w d : Int) : ∀ n : Nat, bitsWith (bitsL v n) (bitsL c n) (bitsL w n) (bitsL d n) = true ↔ ∀ k : Nat, k < n → bitE d (k : Int) = true → bitE c (k : Int) = true ∧ bitE v (k : Int) = bitE w (k : Int)
  | 0 => by simp [bitsL, bitsWith]
  | n + 1 => by
    rw [bitsL, bitsL, bitsL, bitsL, bitsWith, Bool.and_eq_true, bitsWith_iff v c w d n]
    constructor
    · rintro ⟨h1, h2⟩ k hk hd
      rcases Nat.lt_or_ge k n with q | q
      · exact h2 k q hd
      · have : k = n := by omega
        subst this
        rw [hd] at h1
        simpa using h1
    · intro hh
      refine ⟨?_, fun k hk => hh k (by omega)⟩
      cases hd : bitE d (n : Int)
      · rfl
      · obtain ⟨h1, h2⟩ := hh n (by omega) hd
        rw [h1, h2]; simp
def meetF (a b : Cube) : Nat → Nat → Bool
  | 0, _ => true
  | r + 1, i => bitsMeet (bitsL (a.Value.getD i 0) (sizeN i)) (bitsL (a.Care.getD i 0) (sizeN i)) (bitsL (b.Value.getD i 0) (sizeN i)) (bitsL (b.Care.getD i 0) (sizeN i)) && meetF a b r (i + 1)
def withF (a b : Cube) : Nat → Nat → Bool
  | 0, _ => true
  | r + 1, i => bitsWith (bitsL (a.Value.getD i 0) (sizeN i)) (bitsL (a.Care.getD i 0) (sizeN i)) (bitsL (b.Value.getD i 0) (sizeN i)) (bitsL (b.Care.getD i 0) (sizeN i)) && withF a b r (i + 1)
theorem meetL_fields (a b : Cube) : ∀ (r i : Nat), meetL (textS a r i) (textS b r i) = meetF a b r i
  | 0, _ => rfl
  | r + 1, i => by rw [textS, textS, meetF, meetL_append _ _ _ _ (by rw [List.length_zipWith, List.length_zipWith, bitsL_len, bitsL_len, bitsL_len, bitsL_len]), meetL_bits, meetL_fields a b r (i + 1)]
theorem withL_fields (a b : Cube) : ∀ (r i : Nat), withL (textS a r i) (textS b r i) = withF a b r i
  | 0, _ => rfl
  | r + 1, i => by rw [textS, textS, withF, withL_append _ _ _ _ (by rw [List.length_zipWith, List.length_zipWith, bitsL_len, bitsL_len, bitsL_len, bitsL_len]), withL_bits, withL_fields a b r (i + 1)]
theorem field_meet {v c w d n : Nat} (hv : v < 18446744073709551616) (hc : c < 18446744073709551616) (hw : w < 18446744073709551616) (hd : d < 18446744073709551616) (hn : n ≤ 64) (hcn : c < 2 ^ n) :
    bitsMeet (bitsL (v : Int) n) (bitsL (c : Int) n) (bitsL (w : Int) n) (bitsL (d : Int) n) = decide ((v ^^^ w) &&& c &&& d = 0) := by
  rw [Bool.eq_iff_iff, bitsMeet_iff, decide_eq_true_eq]
  have hcb : ∀ k, n ≤ k → c.testBit k = false := fun k hk => Nat.testBit_lt_two_pow (Nat.lt_of_lt_of_le hcn (Nat.pow_le_pow_right (by decide) hk))
  constructor
  · intro hb
    apply Nat.eq_of_testBit_eq
    intro k
    rw [Nat.testBit_and, Nat.testBit_and, Nat.testBit_xor, Nat.zero_testBit]
    rcases Nat.lt_or_ge k n with q | q
    · have := hb k q
      rw [bitE_nat hc (by omega), bitE_nat hd (by omega), bitE_nat hv (by omega), bitE_nat hw (by omega)] at this
      cases h1 : c.testBit k
      · simp
      · cases h2 : d.testBit k
        · simp
        · rw [this h1 h2]; simp
    · rw [hcb k q]; simp
  · intro e k hk h1 h2
    rw [bitE_nat hc (by omega)] at h1
    rw [bitE_nat hd (by omega)] at h2
    rw [bitE_nat hv (by omega), bitE_nat hw (by omega)]
    have := congrArg (fun x => x.testBit k) e
    simp only [Nat.testBit_and, Nat.testBit_xor, Nat.zero_testBit, h1, h2, Bool.and_true] at this
    cases hx : v.testBit k <;> cases hy : w.testBit k <;> simp_all
theorem field_with {v c w d n : Nat} (hv : v < 18446744073709551616) (hc : c < 18446744073709551616) (hw : w < 18446744073709551616) (hd : d < 18446744073709551616) (hn : n ≤ 64) (hcn : c < 2 ^ n) (hdn : d < 2 ^ n) (hvc : ∀ k, v.testBit k = true → c.testBit k = true) (hwd : ∀ k, w.testBit k = true → d.testBit k = true) :
    bitsWith (bitsL (v : Int) n) (bitsL (c : Int) n) (bitsL (w : Int) n) (bitsL (d : Int) n) = (decide ((v ^^^ w) &&& c &&& d = 0) && decide (c ||| d = c) && decide (v ||| w = v)) := by
  rw [Bool.eq_iff_iff, bitsWith_iff, Bool.and_eq_true, Bool.and_eq_true, decide_eq_true_eq, decide_eq_true_eq, decide_eq_true_eq]
  have hdb : ∀ k, n ≤ k → d.testBit k = false := fun k hk => Nat.testBit_lt_two_pow (Nat.lt_of_lt_of_le hdn (Nat.pow_le_pow_right (by decide) hk))
  constructor
  · intro hb
    have key : ∀ k, d.testBit k = true → c.testBit k = true ∧ v.testBit k = w.testBit k := by
      intro k h1
      rcases Nat.lt_or_ge k n with q | q
      · have := hb k q
        rw [bitE_nat hc (by omega), bitE_nat hd (by omega), bitE_nat hv (by omega), bitE_nat hw (by omega)] at this
        exact this h1
      · rw [hdb k q] at h1; cases h1
    refine ⟨⟨?_, ?_⟩, ?_⟩
    · apply Nat.eq_of_testBit_eq
      intro k
      rw [Nat.testBit_and, Nat.testBit_and, Nat.testBit_xor, Nat.zero_testBit]
      cases h2 : d.testBit k
      · simp
      · rw [(key k h2).2]; simp
    · apply Nat.eq_of_testBit_eq
      intro k
      rw [Nat.testBit_or]
      cases h2 : d.testBit k
      · simp
      · rw [(key k h2).1]; simp
    · apply Nat.eq_of_testBit_eq
      intro k
      rw [Nat.testBit_or]
      cases h2 : w.testBit k
      · simp
      · rw [(key k (hwd k h2)).2, h2]; simp
  · rintro ⟨⟨e1, e2⟩, e3⟩ k hk h2
    rw [bitE_nat hd (by omega)] at h2
    rw [bitE_nat hc (by omega), bitE_nat hv (by omega), bitE_nat hw (by omega)]
    have h3 : c.testBit k = true := by
      have := congrArg (fun x => x.testBit k) e2
      simp only [Nat.testBit_or, h2, Bool.or_true] at this
      exact this.symm
    refine ⟨h3, ?_⟩
    have := congrArg (fun x => x.testBit k) e1
    simp only [Nat.testBit_and, Nat.testBit_xor, Nat.zero_testBit, h2, h3, Bool.and_true] at this
    cases hx : v.testBit k <;> cases hy : w.testBit k <;> simp_all

/-! ### cube.Meet -/
def clashE (v w c d : Int) : Bool := ((IntKind.u64.wrap ((BitVec.ofInt 64 (IntKind.u64.wrap ((BitVec.ofInt 64 (IntKind.u64.wrap ((BitVec.ofInt 64 v ^^^ BitVec.ofInt 64 w).toNat)) &&& BitVec.ofInt 64 c).toNat)) &&& BitVec.ofInt 64 d).toNat)) != 0)
def orE (v w : Int) : Int := IntKind.u64.wrap ((BitVec.ofInt 64 v ||| BitVec.ofInt 64 w).toNat)
def clashF (a b : Cube) : Nat → Nat → Bool
  | 0, _ => false
  | r + 1, i => clashE (a.Value.getD i 0) (b.Value.getD i 0) (a.Care.getD i 0) (b.Care.getD i 0) || clashF a b r (i + 1)
def orA (b : List Int) : Nat → Nat → List Int → List Int
  | 0, _, x => x
  | r + 1, i, x => orA b r (i + 1) (x.set i (orE (x.getD i 0) (b.getD i 0)))
theorem getD_set_ne {x : List Int} {i j : Nat} (v : Int) (h : i ≠ j) : (x.set i v).getD j 0 = x.getD j 0 := by
  rw [List.getD_eq_getElem?_getD, List.getD_eq_getElem?_getD, List.getElem?_set_ne h]
theorem cube_Meet_l0s_eq (a b : Cube) : ∀ (r i : Nat) (x y : List Int), (∀ j, i ≤ j → x.getD j 0 = a.Value.getD j 0) → (∀ j, i ≤ j → y.getD j 0 = a.Care.getD j 0) →
    cube_Meet_l0s b r i x y = if clashF a b r i then .inr (({ Value := [0, 0, 0, 0, 0, 0, 0, 0, 0, 0, 0, 0], Care := [0, 0, 0, 0, 0, 0, 0, 0, 0, 0, 0, 0] } : Cube), false) else .inl (orA b.Value r i x, orA b.Care r i y)
  | 0, i, x, y, _, _ => rfl
  | r + 1, i, x, y, hx, hy => by
      rw [cube_Meet_l0s, clashF, orA, orA]
      show (bif clashE (x.getD i 0) (b.Value.getD i 0) (y.getD i 0) (b.Care.getD i 0) then _ else _) = _
      rw [hx i (Nat.le_refl _), hy i (Nat.le_refl _)]
      cases hc : clashE (a.Value.getD i 0) (b.Value.getD i 0) (a.Care.getD i 0) (b.Care.getD i 0) with
      | true => rfl
      | false =>
        rw [cond_false, Bool.false_or]
        refine cube_Meet_l0s_eq a b r (i + 1) _ _ (fun j hj => ?_) (fun j hj => ?_)
        · rw [getD_set_ne _ (by omega)]
          exact hx j (by omega)
        · rw [getD_set_ne _ (by omega)]
          exact hy j (by omega)
theorem cube_Meet_eq (a b : Cube) : cube_Meet a b = if cube_both a b && !clashF a b 12 0 then (⟨orA b.Value 12 0 a.Value, orA b.Care 12 0 a.Care⟩, true) else (⟨[0, 0, 0, 0, 0, 0, 0, 0, 0, 0, 0, 0], [0, 0, 0, 0, 0, 0, 0, 0, 0, 0, 0, 0]⟩, false) := by
  rw [cube_Meet, cube_Meet_l0s_eq a b 12 0 _ _ (fun _ _ => rfl) (fun _ _ => rfl)]
  cases cube_both a b with
  | false => rfl
  | true => cases clashF a b 12 0 <;> rfl
theorem clashE_nat {v w c d : Nat} (hv : v < 18446744073709551616) (hw : w < 18446744073709551616) (hc : c < 18446744073709551616) (hd : d < 18446744073709551616) : clashE (v : Int) (w : Int) (c : Int) (d : Int) = !decide ((v ^^^ w) &&& c &&& d = 0) := by
  have h1 : v ^^^ w < 18446744073709551616 := Nat.xor_lt_two_pow (n := 64) hv hw
  have h2 : (v ^^^ w) &&& c < 18446744073709551616 := Nat.lt_of_le_of_lt Nat.and_le_left h1
  have h3 : (v ^^^ w) &&& c &&& d < 18446744073709551616 := Nat.lt_of_le_of_lt Nat.and_le_left h2
  have e1 : (BitVec.ofInt 64 (v : Int) ^^^ BitVec.ofInt 64 (w : Int)).toNat = v ^^^ w := by rw [BitVec.toNat_xor, ofInt_nat hv, ofInt_nat hw]
  have e2 : (BitVec.ofInt 64 ((v ^^^ w : Nat) : Int) &&& BitVec.ofInt 64 (c : Int)).toNat = (v ^^^ w) &&& c := by rw [BitVec.toNat_and, ofInt_nat h1, ofInt_nat hc]
  have e3 : (BitVec.ofInt 64 (((v ^^^ w) &&& c : Nat) : Int) &&& BitVec.ofInt 64 (d : Int)).toNat = (v ^^^ w) &&& c &&& d := by rw [BitVec.toNat_and, ofInt_nat h2, ofInt_nat hd]
  unfold clashE
  rw [e1, wrapU_nat h1, e2, wrapU_nat h2, e3, wrapU_nat h3, Bool.eq_iff_iff, bne_iff_ne, Bool.not_eq_true', decide_eq_false_iff_not]
  omega
theorem orE_nat {v w : Nat} (hv : v < 18446744073709551616) (hw : w < 18446744073709551616) : orE (v : Int) (w : Int) = ((v ||| w : Nat) : Int) := by
  unfold orE
  rw [BitVec.toNat_or, ofInt_nat hv, ofInt_nat hw, wrapU_nat (Nat.or_lt_two_pow (n := 64) hv hw)]
/-- what soundness says of each field -/
structure SoundF (c : Cube) : Prop where
  wf : Cube.wf c
  bad : ∀ j, j < 12 → badAt c j = false
  fit : ∀ j : Nat, j < 12 → fitsT ((j : Nat) : Int) (c.Care.getD j 0) = true
theorem soundF {c : Cube} (w : Cube.wf c) (h : (textT c).2 = true) : SoundF c := by
  obtain ⟨h1, h2⟩ := textOk_parts c 12 0 _ h
  rw [refHead_eq] at h1
  unfold HeadOk at h1
  rw [List.all_eq_true] at h1
  exact ⟨w, fun j hj => h2 j (Nat.zero_le _) (by omega), fun j hj => h1 j (by rw [List.mem_range'_1]; omega)⟩
theorem meetF_eq {a b : Cube} (ha : SoundF a) (hb : SoundF b) : ∀ (r i : Nat), i + r = 12 → meetF a b r i = !clashF a b r i
  | 0, _, _ => rfl
  | r + 1, i, e => by
      obtain ⟨v, ev, hv⟩ := u64_range ha.wf.1 i
      obtain ⟨c, ec, hc⟩ := u64_range ha.wf.2 i
      obtain ⟨w, ew, hw⟩ := u64_range hb.wf.1 i
      obtain ⟨d, ed, hd⟩ := u64_range hb.wf.2 i
      rw [meetF, clashF, meetF_eq ha hb r (i + 1) (by omega), Bool.not_or]
      congr 1
      have hcn := care_lt ec (ha.fit i (by omega))
      rw [ev, ec, ew, ed, field_meet hv hc hw hd (sizeN_le i) hcn, clashE_nat hv hw hc hd, Bool.not_not]
theorem clashF_comm {a b : Cube} (wa : Cube.wf a) (wb : Cube.wf b) : ∀ (r i : Nat), clashF a b r i = clashF b a r i
  | 0, _ => rfl
  | r + 1, i => by
      obtain ⟨v, ev, hv⟩ := u64_range wa.1 i
      obtain ⟨c, ec, hc⟩ := u64_range wa.2 i
      obtain ⟨w, ew, hw⟩ := u64_range wb.1 i
      obtain ⟨d, ed, hd⟩ := u64_range wb.2 i
      rw [clashF, clashF, clashF_comm wa wb r (i + 1), ev, ec, ew, ed, clashE_nat hv hw hc hd, clashE_nat hw hv hd hc, Nat.xor_comm, Nat.and_assoc, Nat.and_comm c d, ← Nat.and_assoc]
/-! ### the reference's Meet -/
def totS : Nat → Nat → Nat
  | 0, _ => 0
  | r + 1, i => sizeN i + totS r (i + 1)
theorem textS_tot (c : Cube) : ∀ (r i : Nat), (textS c r i).length = totS r i
  | 0, _ => rfl
  | r + 1, i => by rw [textS, totS, List.length_append, List.length_zipWith, bitsL_len, bitsL_len, textS_tot c r (i + 1), Nat.min_self]
theorem totS_le : ∀ (r i : Nat), totS r i ≤ r * 64
  | 0, _ => Nat.le_refl _
  | r + 1, i => by
      have := totS_le r (i + 1)
      have := sizeN_le i
      rw [totS]
      omega
theorem from_l1 (s : ByteArray) (hs : s.size ≤ 100000) (i : Nat) : ∀ (n m k at_ : Nat) (x y : List Int), at_ + n ≤ s.size → ((k + n : Nat) : Int) = sizeT ((i : Nat) : Int) → n < m → ∃ x' y', podestaref01_From_l1 s i m ((at_ : Nat) : Int) ((k : Nat) : Int) x y = some (((at_ + n : Nat) : Int), x', y')
  | 0, m + 1, k, at_, x, y, h1, h2, h3 => by
      refine ⟨x, y, ?_⟩
      rw [podestaref01_From_l1, decide_eq_false (by omega)]
      rfl
  | n + 1, m + 1, k, at_, x, y, h1, h2, h3 => by
      have hz := sizeT_in ((i : Nat) : Int)
      have hr : (decide (0 ≤ ((at_ : Nat) : Int)) && decide (((at_ : Nat) : Int) < ((s.size : Nat) : Int))) = true := by rw [decide_eq_true (by omega), decide_eq_true (by omega)]; rfl
      rw [podestaref01_From_l1, decide_eq_true (by omega), cond_true, reqO_eq hr, wrap_succ (by omega), wrap_succ (by omega), show at_ + (n + 1) = (at_ + 1) + n by omega]
      rw [reqO_eq hr, reqO_eq hr]
      cases byteAt s ((at_ : Nat) : Int) != 120 <;> cases byteAt s ((at_ : Nat) : Int) == 49 <;> exact from_l1 s hs i n m (k + 1) (at_ + 1) _ _ (by omega) (by omega) (by omega)
theorem from_l0 (s : ByteArray) (hs : s.size ≤ 100000) : ∀ (r i at_ : Nat) (x y : List Int), at_ + totS r i ≤ s.size → ∃ z, podestaref01_From_l0s 100 s r i ((at_ : Nat) : Int) x y = some z
  | 0, i, at_, x, y, h => ⟨_, rfl⟩
  | r + 1, i, at_, x, y, h => by
      have hz := sizeT_in ((i : Nat) : Int)
      have hn := sizeN_le i
      rw [totS] at h
      obtain ⟨x', y', e⟩ := from_l1 s hs i (sizeN i) 100 0 at_ x y (by omega) (by unfold sizeN; omega) (by omega)
      rw [podestaref01_From_l0s, zero_nat, e, Option.bind_some]
      exact from_l0 s hs r (i + 1) (at_ + sizeN i) x' y' (by omega)
theorem from_some (s : ByteArray) (hs : s.size = totS 12 0) : ∃ c, podestaref01_From_raw 100 s = some c := by
  have hl := totS_le 12 0
  obtain ⟨z, e⟩ := from_l0 s (by omega) 12 0 0 [0, 0, 0, 0, 0, 0, 0, 0, 0, 0, 0, 0] [0, 0, 0, 0, 0, 0, 0, 0, 0, 0, 0, 0] (by omega)
  refine ⟨⟨z.1, z.2⟩, ?_⟩
  rw [← zero_nat] at e
  rw [podestaref01_From_raw, e]
  rfl
theorem nums_size (L : List Int) : (strOfNums L).size = L.length := by simp [strOfNums, ByteArray.size]
theorem ref_Meet_l0 (a b : Cube) : ∀ (m i : Nat) (out : List Int), i ≤ totS 12 0 → totS 12 0 - i < m → out.length = totS 12 0 →
    ∃ out', out'.length = totS 12 0 ∧ podestaref01_Meet_l0 a b m ((i : Nat) : Int) out = some (if meetL ((textS a 12 0).drop i) ((textS b 12 0).drop i) then .inl out' else .inr (({ Value := [0, 0, 0, 0, 0, 0, 0, 0, 0, 0, 0, 0], Care := [0, 0, 0, 0, 0, 0, 0, 0, 0, 0, 0, 0] } : Cube), false))
  | 0, i, out, _, hm, _ => absurd hm (by omega)
  | m + 1, i, out, hi, hm, ho => by
      have hl := totS_le 12 0
      have la := textS_tot a 12 0
      have lb := textS_tot b 12 0
      have e1 : (textT a).1 = strOfNums (textS a 12 0) := rfl
      have e2 : (textT b).1 = strOfNums (textS b 12 0) := rfl
      rw [podestaref01_Meet_l0, e1, e2, nums_size, nums_size]
      by_cases hlt : i < totS 12 0
      · have ha : i < (textS a 12 0).length := by omega
        have hb : i < (textS b 12 0).length := by omega
        rw [decide_eq_true (by omega), cond_true, byteAt_nums _ (text_bytes a 12 0) ha, byteAt_nums _ (text_bytes b 12 0) hb, wrap_succ (by omega), List.drop_eq_getElem_cons ha, List.drop_eq_getElem_cons hb, meetL]
        have r1 : (decide (0 ≤ (i : Int)) && true) = true := by rw [decide_eq_true (by omega)]; rfl
        have r2 : (decide (0 ≤ (i : Int)) && decide ((i : Int) < (((textS b 12 0).length : Nat) : Int))) = true := by rw [decide_eq_true (by omega), decide_eq_true (by omega)]; rfl
        have ih := fun out h => ref_Meet_l0 a b m (i + 1) out (by omega) (by omega) h
        rw [reqO_eq r1, reqO_eq r2, ixO_lt (by omega : i < out.length), Option.bind_some, Int.toNat_natCast]
        cases h1 : (textS a 12 0)[i] == 120 with
        | true => exact ih _ (by rw [List.length_set]; exact ho)
        | false =>
          rw [cond_false, reqO_eq r2, bne, bne]
          cases h2 : (textS b 12 0)[i] == 120 with
          | true => exact ih _ ho
          | false =>
            rw [Bool.not_false, cond_true, reqO_eq r1, reqO_eq r2]
            cases h3 : (textS a 12 0)[i] == (textS b 12 0)[i] with
            | true => exact ih _ ho
            | false => exact ⟨out, ho, rfl⟩
      · refine ⟨out, ho, ?_⟩
        rw [decide_eq_false (by omega), cond_false, List.drop_eq_nil_of_le (by omega), List.drop_eq_nil_of_le (by omega)]
        rfl
theorem both_eq {a b : Cube} (wa : Cube.wf a) (wb : Cube.wf b) : cube_both a b = ((textT a).2 && (textT b).2) := by
  rw [cube_both, cube_Sound_eq wa, cube_Sound_eq wb]
  rfl
theorem ref_Meet_eq {a b : Cube} (wa : Cube.wf a) (wb : Cube.wf b) : ∃ c, podestaref01_Meet_raw 1000 a b = some (c, (cube_Meet a b).2) := by
  rw [podestaref01_Meet_raw, cube_Meet_eq, both_eq wa wb]
  have hl := totS_le 12 0
  cases ha : (textT a).2 with
  | false => exact ⟨_, rfl⟩
  | true =>
    cases hb : (textT b).2 with
    | false => exact ⟨_, rfl⟩
    | true =>
      have la := textS_tot a 12 0
      have hm := meetF_eq (soundF wa ha) (soundF wb hb) 12 0 rfl
      have e1 : (textT a).1 = strOfNums (textS a 12 0) := rfl
      obtain ⟨out, h1, h2⟩ := ref_Meet_l0 a b 1000 0 (numsOf (textT a).1) (by omega) (by omega) (by rw [e1, numsOf_length, nums_size, la])
      rw [List.drop_zero, List.drop_zero, meetL_fields, hm] at h2
      rw [Bool.not_true, Bool.or_false, cond_false, fitO_eq (by rw [e1, nums_size, la]; omega), zero_nat, h2]
      cases clashF a b 12 0 with
      | true => exact ⟨_, rfl⟩
      | false =>
        obtain ⟨c, hc⟩ := from_some (strOfNums out) (by rw [nums_size, h1])
        refine ⟨c, ?_⟩
        show (podestaref01_From_raw 100 (strOfNums out)).bind _ = _
        rw [hc]
        rfl
theorem Overlap_eq {a b : Rule} (wa : Rule.wf a) (wb : Rule.wf b) : podestaref04_Overlap_raw a b = some (rule_Overlap a b) := by
  obtain ⟨c, h⟩ := ref_Meet_eq wa.1 wb.1
  rw [podestaref04_Overlap_raw, h, rule_Overlap, Bool.and_comm]
  rfl
theorem Overlap_comm {a b : Rule} (wa : Rule.wf a) (wb : Rule.wf b) : rule_Overlap a b = rule_Overlap b a := by
  rw [rule_Overlap, rule_Overlap, cube_Meet_eq, cube_Meet_eq, both_eq wa.1 wb.1, both_eq wb.1 wa.1, clashF_comm wa.1 wb.1, Bool.and_comm (textT b.Match).2]
  congr 1
  · split <;> rfl
  · rw [Bool.eq_iff_iff, beq_iff_eq, beq_iff_eq]
    exact eq_comm

theorem Before_anti (a b : Rule) : (!(rule_Before a b && rule_Before b a)) = true := by
  rw [Before_key, Before_key, Bool.not_eq_true', Bool.and_eq_false_iff, decide_eq_false_iff_not, decide_eq_false_iff_not]
  have n := good_key.anti a.key b.key
  omega
theorem RulePairs_true (a b : Rule) (wa : Rule.wf a) (wb : Rule.wf b) (_ : a.Acts.length * 32 ≤ 140737488355328) (_ : b.Acts.length * 32 ≤ 140737488355328) : podestalaw05_RulePairs_raw a b = some true := by
  rw [podestalaw05_RulePairs_raw]
  cases ((decide ((((List.map Act.av a.Acts).length : Nat) : Int) > 50)) || (decide ((((List.map Act.av b.Acts).length : Nat) : Int) > 50))) with
  | true => rfl
  | false =>
    have hk : rule_Key a b = podestaref04_Key a b := by rw [Key_key, refKey_eq]
    rw [cond_false, ← rule_Sound_eq wa, ← hk, refBefore_eq wa wb, beq_self_eq_true, beq_self_eq_true, beq_self_eq_true, Bool.and_self, Bool.and_self, cond_true, Overlap_eq wa wb, Option.bind_some, ← Overlap_comm wa wb, beq_self_eq_true, Before_anti]
    rfl

end Go.Proofs.Ytadolbhmdimbkaa

import Derived.Test.YthfidfjogecnpaaM4CodeTurned
set_option linter.unusedVariables false
set_option linter.unusedSimpArgs false
set_option maxRecDepth 100000
set_option maxHeartbeats 4000000
namespace Go.Proofs.Ythfidfjogecnpaa
open Go.Sh
/-! ### rule.Equal: function 62 -/
noncomputable def rule_Equal_F : Go.Sh.Fn := ⟨62, bodyOf Try.f62, 63⟩
def rule_Equal (a : Rule) (b : Rule) : Bool :=
  ((((((((act_Same a.Acts b.Acts) && (rule_Key ({ a with Acts := [] } : Rule) ({ b with Acts := [] } : Rule))) && (a.Idle == b.Idle)) && (a.Hard == b.Hard)) && (a.Owner == b.Owner)) && (a.Hits == b.Hits)) && (a.Quiet == b.Quiet)) && (a.Age == b.Age))
theorem rule_Equal_calls (a : Rule) (b : Rule) : ACalls Try.prog tab.S 62 [Rule.av a, Rule.av b] [] (.sc (.bool (rule_Equal a b))) [] := by
  generalize H : rule_Equal a b = r
  refine .of_AX rule_Equal_F Try.func62 fun c0 hc0 => ?_
  rw [rule_Equal] at H
  refine .sg 1 [0,1] (.rg (.bx [1,2] (.bx [2,3] (.sg 1 [2,3] (.dn (.sg 1 [2,3] (.rp hc0 [2, 3, 5, 6] [] [[0, 1], [1, 0]] .nil (by kernel_rfl) (.sg 3 [2,3,5,6] (.rg (.sg 4 [5,6,12,14] (.cp [5,6,15] (act_Same_calls a.Acts b.Acts false false) (.sg 1 [5,6,16] (.mm 16 (act_Same a.Acts b.Acts) 4 [.pure, .pure, .read, .read] [5, 6, 20] 20 (fun z => .sc (.bool (z && (rule_Key ({ a with Acts := [] } : Rule) ({ b with Acts := [] } : Rule))))) ?J1 (fun hb J => ?ht1) (fun hb J => ?hf1))))))))))))))
  case ht1 =>
    exact .sg 2 [5,6,16,17,18] (.cp [5,6,16,19] (ds := [(87, false), (87, false)]) (rule_Key_calls ({ a with Acts := [] } : Rule) ({ b with Acts := [] } : Rule)) (.sg 1 [5,6,20] (.cl J)))
  case hf1 =>
    exact .sg 4 [5,6,20] (.cl J)
  refine .sg 1 [5,6,21] (.mx 0 [5,6,27] (.sg 1 [5,6,28] (.mx 0 [5,6,34] (.sg 1 [5,6,35] (.mx 0 [5,6,41] (.sg 1 [5,6,42] (.mx 0 [5,6,48] (.sg 1 [5,6,49] (.mx 0 [5,6,55] (.sg 1 [5,6,56] (.mx 0 [62] (.sg 1 [4] (.dn ?_)))))))))))))
  subst H
  exact .ret Try.func62 hc0

theorem rule_Equal_eq (a b : Rule) : rule_Equal a b = (a == b) := by
  obtain ⟨⟨v, c⟩, p, ac, i1, h1, o1, h2, q1, g1⟩ := a
  obtain ⟨⟨v', c'⟩, p', ac', i1', h1', o1', h2', q1', g1'⟩ := b
  rw [rule_Equal, act_Same, rule_Key, Bool.eq_iff_iff]
  simp only [Bool.and_eq_true, beq_iff_eq, Rule.mk.injEq, Cube.mk.injEq]
  constructor
  · rintro ⟨⟨⟨⟨⟨⟨⟨a1, ⟨a2, a3⟩, a4⟩, a5⟩, a6⟩, a7⟩, a8⟩, a9⟩, a10⟩
    exact ⟨⟨a2, a3⟩, a4, a1, a5, a6, a7, a8, a9, a10⟩
  · rintro ⟨⟨a2, a3⟩, a4, a1, a5, a6, a7, a8, a9, a10⟩
    exact ⟨⟨⟨⟨⟨⟨⟨a1, ⟨a2, a3⟩, a4⟩, a5⟩, a6⟩, a7⟩, a8⟩, a9⟩, a10⟩

/-! ### slices.EqualFunc: function 61 -/
noncomputable def slices_EqualFunc__api_Rule_F : Go.Sh.Fn := ⟨61, bodyOf Try.f61, 32⟩
def slices_EqualFunc__api_Rule_l0s (s2 : List Rule) (eq : Rule → Rule → Bool) : List Rule → Nat → Option (Sum (Unit) (Bool))
  | [], t17 =>
    some (.inl ())
  | x :: rest, t17 =>
    (ixO s2 ((t17 : Nat) : Int)).bind fun x1 =>
    (bif (!(eq x x1)) then
      some (.inr false)
    else
      slices_EqualFunc__api_Rule_l0s s2 eq rest (t17 + 1) )
theorem slices_EqualFunc__api_Rule_l0_walk (s1 : List Rule) (s2 : List Rule) (F_eq : FuncId) (C_eq : List AV) (eq : Rule → Rule → Bool) (P_eq : plainL C_eq = true) (O_eq : C_eq.all oneA = true) (H_eq : ∀ (y0 : Rule) (y1 : Rule), ACalls Try.prog tab.S F_eq ([Rule.av y0, Rule.av y1] ++ C_eq) [] (.sc (.bool (eq y0 y1))) []) (f_s1 : Bool) (f_s2 : Bool) (r : Bool) (c0 : Ctx) (hc0 : c0.m.length = 0) (res : Sum (Unit) (Bool)) (J : ∀ w : Unit, res = .inl w → AX Try.prog tab slices_EqualFunc__api_Rule_F c0 (Rp tab.S c0 (.sc (.bool r)) []) (some ⟨[.code [1, 1, 1]], [], []⟩)) (Jr : ∀ w, res = .inr w → w = r) :
    ∀ (rest : List Rule) (t17 : Nat) (z : Int) (hI : z = ((t17 : Nat) : Int)) (hd : s1.drop t17 = rest) (H : slices_EqualFunc__api_Rule_l0s s2 eq rest t17 = some res), AX Try.prog tab slices_EqualFunc__api_Rule_F c0 (Rp tab.S c0 (.sc (.bool r)) []) (some ⟨[.code [1, 1, 0, 1, 0, 0], .loop [1, 1, 0, 1, 0], .blk 0, .code [1, 1, 1]], [(1, .sl 68 (List.map Rule.av s2) f_s2), (2, .fn F_eq C_eq), (15, .sl 68 (List.map Rule.av s1) f_s1), (16, .sc (.int .i64 (((List.map Rule.av s1).length : Nat) : Int))), (17, .sc (.int .i64 z))], []⟩) := by
  intro rest
  induction rest with
  | nil =>
    intro t17 z hI hd  H
    subst hI
    rw [slices_EqualFunc__api_Rule_l0s] at H
    refine .facts 15 fun hf => ?_
    have hlen : s1.length ≤ 9223372036854775807 := by have hq := len_ok hf.2.1; rw [List.length_map] at hq; exact hq
    have hge : s1.length ≤ t17 := List.drop_eq_nil_iff.1 hd
    have hc : (decide (((t17 : Nat) : Int) < (((List.map Rule.av s1).length : Nat) : Int))) = false := by rw [List.length_map]; exact decide_eq_false (by omega)
    exact .sg 3 [1,2,15,16,17,18] (.cdF hc (.sg 1 [] (.kp [] (.to (J () (Option.some.inj H).symm)))))
  | cons x rest ih =>
    intro t17 z hI hd  H
    subst hI
    rw [slices_EqualFunc__api_Rule_l0s] at H
    refine .facts 15 fun hf => ?_
    have hlen : s1.length ≤ 9223372036854775807 := by have hq := len_ok hf.2.1; rw [List.length_map] at hq; exact hq
    obtain ⟨hlt, hv_t17, hd2⟩ := drop_cons hd
    have hc : (decide (((t17 : Nat) : Int) < (((List.map Rule.av s1).length : Nat) : Int))) = true := by rw [List.length_map]; exact decide_eq_true (by omega)
    have hw : IntKind.i64.wrap (((t17 : Nat) : Int) + 1) = ((t17 + 1 : Nat) : Int) := wrapI_succ (by omega)
    refine .sg 3 [1,2,15,16,17,18] (.cdT hc (.sg 4 [1,2,15,16,17] (.rg (.sg 1 [1,2,15,16,17,19] (.xi [1,2,15,16,17,19,20] Rule.av hv_t17 (.sg 4 [1,2,7,8,15,16,17] (.dn (.sg 1 [1,2,7,8,15,16,17] (.rg (.sg 2 [1,2,8,15,16,17,22,23] (bndO H fun x1 hv H => (.xi [1,2,8,15,16,17,24] Rule.av hv (.sg 3 [1,2,8,9,15,16,17] (.dn (.sg 1 [1,2,8,9,15,16,17] (.rg (.sg 3 [1,2,15,16,17,26,27,28] (.cf [1,2,15,16,17,29] (H_eq x x1) P_eq O_eq (.sg 1 [1,2,15,16,17,30] (.dn (.cd (!(eq x x1)) H (fun hb H => ?_) (fun hb H => ?_))))))))))))))))))))))
    ·
      refine .sg 2 [6] ?_
      obtain rfl := Option.some.inj H
      obtain rfl := Jr _ rfl
      exact .ret Try.func61 hc0
    ·
      exact .sg 3 [1,2,15,16,17] (.kp [1,2,15,16,17] (.to (c := ⟨[.loop [1, 1, 0, 1, 0], .blk 0, .code [1, 1, 1]], [(1, .sl 68 (List.map Rule.av s2) f_s2), (2, .fn F_eq C_eq), (15, .sl 68 (List.map Rule.av s1) f_s1), (16, .sc (.int .i64 (((List.map Rule.av s1).length : Nat) : Int))), (17, .sc (.int .i64 (IntKind.i64.wrap (((t17 : Nat) : Int) + 1))))], [.box 68 (Rule.ch x), .box 68 (Rule.ch x1)]⟩) (.dropX 0 hc0 (h' := []) (by kernel_rfl) (.cons (by kernel_rfl) (.cons (below_fn P_eq) (.cons (by kernel_rfl) (.cons (by kernel_rfl) (.cons (by kernel_rfl) .nil))))) (by kernel_rfl) (.into (.cl (ih (t17 + 1) _ hw hd2 H))))))

def slices_EqualFunc__api_Rule_raw (s1 : List Rule) (s2 : List Rule) (eq : Rule → Rule → Bool) : Option (Bool) :=
  (bif ((((List.map Rule.av s1).length : Nat) : Int) != (((List.map Rule.av s2).length : Nat) : Int)) then
    some false
  else
    loopO (slices_EqualFunc__api_Rule_l0s s2 eq s1 0) fun v =>
    some true)
theorem slices_EqualFunc__api_Rule_walk (s1 : List Rule) (s2 : List Rule) (F_eq : FuncId) (C_eq : List AV) (eq : Rule → Rule → Bool) (P_eq : plainL C_eq = true) (O_eq : C_eq.all oneA = true) (H_eq : ∀ (y0 : Rule) (y1 : Rule), ACalls Try.prog tab.S F_eq ([Rule.av y0, Rule.av y1] ++ C_eq) [] (.sc (.bool (eq y0 y1))) []) (f_s1 : Bool) (f_s2 : Bool) (r : Bool) (H : slices_EqualFunc__api_Rule_raw s1 s2 eq = some r) : ACalls Try.prog tab.S 61 [.sl 68 (List.map Rule.av s1) f_s1, .sl 68 (List.map Rule.av s2) f_s2, .fn F_eq C_eq] [] (.sc (.bool r)) [] := by
  refine .of_AX slices_EqualFunc__api_Rule_F Try.func61 fun c0 hc0 => ?_
  rw [slices_EqualFunc__api_Rule_raw] at H
  refine .sg 5 [0,1,2,14] (.cd ((((List.map Rule.av s1).length : Nat) : Int) != (((List.map Rule.av s2).length : Nat) : Int)) H (fun hb H => ?_) (fun hb H => ?_))
  ·
    refine .sg 2 [6] ?_
    obtain rfl := Option.some.inj H
    exact .ret Try.func61 hc0
  ·
    refine .sg 5 [1,2,15,16,17] ?_
    rcases loopO_some H with ⟨v, hv, H⟩ | hv
    case inr =>
      exact .into (.to (slices_EqualFunc__api_Rule_l0_walk s1 s2 F_eq C_eq eq P_eq O_eq H_eq f_s1 f_s2 _ c0 hc0 (.inr _) (fun _ e => by cases e) (fun _ e => (Sum.inr.inj e).symm) s1 0 _ rfl rfl hv))
    refine .into (.to (slices_EqualFunc__api_Rule_l0_walk s1 s2 F_eq C_eq eq P_eq O_eq H_eq f_s1 f_s2 r c0 hc0 (.inl v) (fun w e => ?_) (fun _ e => by cases e) s1 0 _ rfl rfl hv))
    have e := Sum.inl.inj e
    subst e
    refine .sg 2 [6] ?_
    obtain rfl := Option.some.inj H
    exact .ret Try.func61 hc0

theorem slices_EqualFunc__api_Rule_ok (s1 s2 : List Rule) (F_eq : FuncId) (C_eq : List AV) (eq : Rule → Rule → Bool) (P_eq : plainL C_eq = true) (O_eq : C_eq.all oneA = true) (H_eq : ∀ (y0 : Rule) (y1 : Rule), ACalls Try.prog tab.S F_eq ([Rule.av y0, Rule.av y1] ++ C_eq) [] (.sc (.bool (eq y0 y1))) []) (f_s1 f_s2 : Bool) :
    ACalls Try.prog tab.S 61 [.sl 68 (List.map Rule.av s1) f_s1, .sl 68 (List.map Rule.av s2) f_s2, .fn F_eq C_eq] [] (.sc (.bool (zipAll eq s1 s2))) [] := by
  refine slices_EqualFunc__api_Rule_walk s1 s2 F_eq C_eq eq P_eq O_eq H_eq f_s1 f_s2 _ ?_
  rw [slices_EqualFunc__api_Rule_raw, len_bne]
  by_cases h : s1.length = s2.length
  · simp only [h, decide_true, Bool.not_true, cond_false]
    rw [cmp_loop (v := false) (slices_EqualFunc__api_Rule_l0s s2 eq) s2 eq (fun _ => rfl) (fun x r i => by rw [slices_EqualFunc__api_Rule_l0s]) s1 0 (by omega), List.drop_zero]
    cases zipAll eq s1 s2 <;> rfl
  · rw [zipAll_ne eq h]
    simp only [h, decide_false, Bool.not_false, cond_true]

/-! ### podestaref04.SameActs: function 46 -/
noncomputable def podestaref04_SameActs_F : Go.Sh.Fn := ⟨46, bodyOf Try.f46, 26⟩
def podestaref04_SameActs_l0s (b : List Act) : List Act → Nat → Option (Sum (Unit) (Bool))
  | [], i =>
    some (.inl ())
  | x :: rest, i =>
    (ixO b ((i : Nat) : Int)).bind fun x1 =>
    (bif (!((x.Kind == x1.Kind) && ((x.Port == x1.Port) && ((x.Field == x1.Field) && (x.Value == x1.Value))))) then
      some (.inr false)
    else
      podestaref04_SameActs_l0s b rest (i + 1) )
theorem podestaref04_SameActs_l0_walk (a : List Act) (b : List Act) (f_a : Bool) (f_b : Bool) (r : Bool) (c0 : Ctx) (hc0 : c0.m.length = 0) (res : Sum (Unit) (Bool)) (J : ∀ w : Unit, res = .inl w → AX Try.prog tab podestaref04_SameActs_F c0 (Rp tab.S c0 (.sc (.bool r)) []) (some ⟨[.code [1, 1, 1]], [], []⟩)) (Jr : ∀ w, res = .inr w → w = r) :
    ∀ (rest : List Act) (i : Nat) (z : Int) (hI : z = ((i : Nat) : Int)) (hd : a.drop i = rest) (H : podestaref04_SameActs_l0s b rest i = some res), AX Try.prog tab podestaref04_SameActs_F c0 (Rp tab.S c0 (.sc (.bool r)) []) (some ⟨[.code [1, 1, 0, 1, 0, 0], .loop [1, 1, 0, 1, 0], .blk 0, .code [1, 1, 1]], [(0, .sl 87 (List.map Act.av a) f_a), (1, .sl 87 (List.map Act.av b) f_b), (5, .sc (.int .i64 z))], []⟩) := by
  intro rest
  induction rest with
  | nil =>
    intro i z hI hd  H
    subst hI
    rw [podestaref04_SameActs_l0s] at H
    refine .facts 0 fun hf => ?_
    have hlen : a.length ≤ 9223372036854775807 := by have hq := len_ok hf.2.1; rw [List.length_map] at hq; exact hq
    have hge : a.length ≤ i := List.drop_eq_nil_iff.1 hd
    have hc : (decide (((i : Nat) : Int) < (((List.map Act.av a).length : Nat) : Int))) = false := by rw [List.length_map]; exact decide_eq_false (by omega)
    exact .sg 3 [0,1,5,14] (.cdF hc (.sg 1 [] (.kp [] (.to (J () (Option.some.inj H).symm)))))
  | cons x rest ih =>
    intro i z hI hd  H
    subst hI
    rw [podestaref04_SameActs_l0s] at H
    refine .facts 0 fun hf => ?_
    have hlen : a.length ≤ 9223372036854775807 := by have hq := len_ok hf.2.1; rw [List.length_map] at hq; exact hq
    obtain ⟨hlt, hv_i, hd2⟩ := drop_cons hd
    have hc : (decide (((i : Nat) : Int) < (((List.map Act.av a).length : Nat) : Int))) = true := by rw [List.length_map]; exact decide_eq_true (by omega)
    have hw : IntKind.i64.wrap (((i : Nat) : Int) + 1) = ((i + 1 : Nat) : Int) := wrapI_succ (by omega)
    refine .sg 3 [0,1,5,14] (.cdT hc (.sg 4 [0,1,5] (.rg (.sg 2 [0,1,5,17,18] (.xi [0,1,5,19] Act.av hv_i (.sg 3 [0,1,5,20,21,22] (bndO H fun x1 hv H => (.xi [0,1,5,20,23] Act.av hv (.sg 1 [0,1,5,20,24] (.eq_ [0,1,5,25] 9 (.dn (.cd (!((x.Kind == x1.Kind) && ((x.Port == x1.Port) && ((x.Field == x1.Field) && (x.Value == x1.Value))))) H (fun hb H => ?_) (fun hb H => ?_)))))))))))))
    ·
      refine .sg 2 [4] ?_
      obtain rfl := Option.some.inj H
      obtain rfl := Jr _ rfl
      exact .ret Try.func46 hc0
    ·
      exact .sg 3 [0,1,5] (.kp [0,1,5] (.into (.cl (ih (i + 1) _ hw hd2 H))))

def podestaref04_SameActs_raw (a : List Act) (b : List Act) : Option (Bool) :=
  (bif ((((List.map Act.av a).length : Nat) : Int) != (((List.map Act.av b).length : Nat) : Int)) then
    some false
  else
    loopO (podestaref04_SameActs_l0s b a 0) fun v =>
    some true)
theorem podestaref04_SameActs_walk (a : List Act) (b : List Act) (f_a : Bool) (f_b : Bool) (r : Bool) (H : podestaref04_SameActs_raw a b = some r) : ACalls Try.prog tab.S 46 [.sl 87 (List.map Act.av a) f_a, .sl 87 (List.map Act.av b) f_b] [] (.sc (.bool r)) [] := by
  refine .of_AX podestaref04_SameActs_F Try.func46 fun c0 hc0 => ?_
  rw [podestaref04_SameActs_raw] at H
  refine .sg 5 [0,1,10] (.cd ((((List.map Act.av a).length : Nat) : Int) != (((List.map Act.av b).length : Nat) : Int)) H (fun hb H => ?_) (fun hb H => ?_))
  ·
    refine .sg 2 [4] ?_
    obtain rfl := Option.some.inj H
    exact .ret Try.func46 hc0
  ·
    refine .sg 5 [0,1,5] ?_
    rcases loopO_some H with ⟨v, hv, H⟩ | hv
    case inr =>
      exact .into (.to (podestaref04_SameActs_l0_walk a b f_a f_b _ c0 hc0 (.inr _) (fun _ e => by cases e) (fun _ e => (Sum.inr.inj e).symm) a 0 _ rfl rfl hv))
    refine .into (.to (podestaref04_SameActs_l0_walk a b f_a f_b r c0 hc0 (.inl v) (fun w e => ?_) (fun _ e => by cases e) a 0 _ rfl rfl hv))
    have e := Sum.inl.inj e
    subst e
    refine .sg 2 [4] ?_
    obtain rfl := Option.some.inj H
    exact .ret Try.func46 hc0

theorem podestaref04_SameActs_ok (a b : List Act) (f_a f_b : Bool) : ACalls Try.prog tab.S 46 [.sl 87 (List.map Act.av a) f_a, .sl 87 (List.map Act.av b) f_b] [] (.sc (.bool (a == b))) [] := by
  refine podestaref04_SameActs_walk a b f_a f_b _ ?_
  rw [podestaref04_SameActs_raw, len_bne]
  by_cases h : a.length = b.length
  · simp only [h, decide_true, Bool.not_true, cond_false]
    rw [cmp_loop (v := false) (podestaref04_SameActs_l0s b) b (fun x y => x == y) (fun _ => rfl) (fun x r i => by rw [podestaref04_SameActs_l0s]; simp only [Act.beq_eq]) a 0 (by omega), List.drop_zero, zipAll_beq]
    cases a == b <;> rfl
  · have e : (a == b) = false := by
      rw [beq_eq_false_iff_ne]
      intro e
      exact h (by rw [e])
    rw [e]
    simp only [h, decide_false, Bool.not_false, cond_true]

/-! ### podestaref04.Key: function 63 -/
noncomputable def podestaref04_Key_F : Go.Sh.Fn := ⟨63, bodyOf Try.f63, 17⟩
def podestaref04_Key (a : Rule) (b : Rule) : Bool :=
  (((a.Match.Value == b.Match.Value) && (a.Match.Care == b.Match.Care)) && (a.Prio == b.Prio))
theorem podestaref04_Key_calls (a : Rule) (b : Rule) : ACalls Try.prog tab.S 63 [Rule.av a, Rule.av b] [] (.sc (.bool (podestaref04_Key a b))) [] := by
  generalize H : podestaref04_Key a b = r
  refine .of_AX podestaref04_Key_F Try.func63 fun c0 hc0 => ?_
  rw [podestaref04_Key] at H
  refine .sg 3 [2,3] (.rg (.sg 4 [2,3,6,8] (.eq_ [2,3,9] 9 (.sg 1 [2,3,10] (.mx 0 [16] (.sg 1 [4] (.dn ?_)))))))
  subst H
  exact .ret Try.func63 hc0

/-! ### podestaref04.Equal: function 47 -/
noncomputable def podestaref04_Equal_F : Go.Sh.Fn := ⟨47, bodyOf Try.f47, 57⟩
def podestaref04_Equal (a : Rule) (b : Rule) : Bool :=
  ((((((((podestaref04_Key a b) && (a.Acts == b.Acts)) && (a.Idle == b.Idle)) && (a.Hard == b.Hard)) && (a.Owner == b.Owner)) && (a.Hits == b.Hits)) && (a.Quiet == b.Quiet)) && (a.Age == b.Age))
theorem podestaref04_Equal_calls (a : Rule) (b : Rule) : ACalls Try.prog tab.S 47 [Rule.av a, Rule.av b] [] (.sc (.bool (podestaref04_Equal a b))) [] := by
  generalize H : podestaref04_Equal a b = r
  refine .of_AX podestaref04_Equal_F Try.func47 fun c0 hc0 => ?_
  rw [podestaref04_Equal] at H
  refine .sg 3 [2,3] (.rg (.sg 2 [2,3,5,6] (.cp [2,3,7] (podestaref04_Key_calls a b) (.sg 1 [2,3,8] (.mm 8 (podestaref04_Key a b) 6 [.pure, .pure, .read, .pure, .read, .pure] [2, 3, 14] 14 (fun z => .sc (.bool (z && (a.Acts == b.Acts)))) ?J1 (fun hb J => ?ht1) (fun hb J => ?hf1))))))
  case ht1 =>
    exact .sg 4 [2,3,8,10,12] (.cp [2,3,8,13] (podestaref04_SameActs_ok a.Acts b.Acts false false) (.sg 1 [2,3,14] (.cl J)))
  case hf1 =>
    exact .sg 6 [2,3,14] (.cl J)
  refine .sg 1 [2,3,15] (.mx 0 [2,3,21] (.sg 1 [2,3,22] (.mx 0 [2,3,28] (.sg 1 [2,3,29] (.mx 0 [2,3,35] (.sg 1 [2,3,36] (.mx 0 [2,3,42] (.sg 1 [2,3,43] (.mx 0 [2,3,49] (.sg 1 [2,3,50] (.mx 0 [56] (.sg 1 [4] (.dn ?_)))))))))))))
  subst H
  exact .ret Try.func47 hc0

/-! ### podestaref04.Same: function 28 -/
noncomputable def podestaref04_Same_F : Go.Sh.Fn := ⟨28, bodyOf Try.f28, 27⟩
def podestaref04_Same_l0s (b : List Rule) : List Rule → Nat → Option (Sum (Unit) (Bool))
  | [], i =>
    some (.inl ())
  | x :: rest, i =>
    (ixO b ((i : Nat) : Int)).bind fun x1 =>
    (bif (!(podestaref04_Equal x x1)) then
      some (.inr false)
    else
      podestaref04_Same_l0s b rest (i + 1) )
theorem podestaref04_Same_l0_walk (a : List Rule) (b : List Rule) (f_a : Bool) (f_b : Bool) (r : Bool) (c0 : Ctx) (hc0 : c0.m.length = 0) (res : Sum (Unit) (Bool)) (J : ∀ w : Unit, res = .inl w → AX Try.prog tab podestaref04_Same_F c0 (Rp tab.S c0 (.sc (.bool r)) []) (some ⟨[.code [1, 1, 1]], [], []⟩)) (Jr : ∀ w, res = .inr w → w = r) :
    ∀ (rest : List Rule) (i : Nat) (z : Int) (hI : z = ((i : Nat) : Int)) (hd : a.drop i = rest) (H : podestaref04_Same_l0s b rest i = some res), AX Try.prog tab podestaref04_Same_F c0 (Rp tab.S c0 (.sc (.bool r)) []) (some ⟨[.code [1, 1, 0, 1, 0, 0], .loop [1, 1, 0, 1, 0], .blk 0, .code [1, 1, 1]], [(0, .sl 68 (List.map Rule.av a) f_a), (1, .sl 68 (List.map Rule.av b) f_b), (5, .sc (.int .i64 z))], []⟩) := by
  intro rest
  induction rest with
  | nil =>
    intro i z hI hd  H
    subst hI
    rw [podestaref04_Same_l0s] at H
    refine .facts 0 fun hf => ?_
    have hlen : a.length ≤ 9223372036854775807 := by have hq := len_ok hf.2.1; rw [List.length_map] at hq; exact hq
    have hge : a.length ≤ i := List.drop_eq_nil_iff.1 hd
    have hc : (decide (((i : Nat) : Int) < (((List.map Rule.av a).length : Nat) : Int))) = false := by rw [List.length_map]; exact decide_eq_false (by omega)
    exact .sg 3 [0,1,5,14] (.cdF hc (.sg 1 [] (.kp [] (.to (J () (Option.some.inj H).symm)))))
  | cons x rest ih =>
    intro i z hI hd  H
    subst hI
    rw [podestaref04_Same_l0s] at H
    refine .facts 0 fun hf => ?_
    have hlen : a.length ≤ 9223372036854775807 := by have hq := len_ok hf.2.1; rw [List.length_map] at hq; exact hq
    obtain ⟨hlt, hv_i, hd2⟩ := drop_cons hd
    have hc : (decide (((i : Nat) : Int) < (((List.map Rule.av a).length : Nat) : Int))) = true := by rw [List.length_map]; exact decide_eq_true (by omega)
    have hw : IntKind.i64.wrap (((i : Nat) : Int) + 1) = ((i + 1 : Nat) : Int) := wrapI_succ (by omega)
    refine .sg 3 [0,1,5,14] (.cdT hc (.sg 4 [0,1,5] (.rg (.sg 2 [0,1,5,17,18] (.xi [0,1,5,19] Rule.av hv_i (.sg 3 [0,1,5,20,21,22] (bndO H fun x1 hv H => (.xi [0,1,5,20,23] Rule.av hv (.sg 1 [0,1,5,20,24] (.cp [0,1,5,25] (podestaref04_Equal_calls x x1) (.sg 1 [0,1,5,26] (.dn (.cd (!(podestaref04_Equal x x1)) H (fun hb H => ?_) (fun hb H => ?_))))))))))))))
    ·
      refine .sg 2 [4] ?_
      obtain rfl := Option.some.inj H
      obtain rfl := Jr _ rfl
      exact .ret Try.func28 hc0
    ·
      exact .sg 3 [0,1,5] (.kp [0,1,5] (.into (.cl (ih (i + 1) _ hw hd2 H))))

def podestaref04_Same_raw (a : List Rule) (b : List Rule) : Option (Bool) :=
  (bif ((((List.map Rule.av a).length : Nat) : Int) != (((List.map Rule.av b).length : Nat) : Int)) then
    some false
  else
    loopO (podestaref04_Same_l0s b a 0) fun v =>
    some true)
theorem podestaref04_Same_walk (a : List Rule) (b : List Rule) (f_a : Bool) (f_b : Bool) (r : Bool) (H : podestaref04_Same_raw a b = some r) : ACalls Try.prog tab.S 28 [.sl 68 (List.map Rule.av a) f_a, .sl 68 (List.map Rule.av b) f_b] [] (.sc (.bool r)) [] := by
  refine .of_AX podestaref04_Same_F Try.func28 fun c0 hc0 => ?_
  rw [podestaref04_Same_raw] at H
  refine .sg 5 [0,1,10] (.cd ((((List.map Rule.av a).length : Nat) : Int) != (((List.map Rule.av b).length : Nat) : Int)) H (fun hb H => ?_) (fun hb H => ?_))
  ·
    refine .sg 2 [4] ?_
    obtain rfl := Option.some.inj H
    exact .ret Try.func28 hc0
  ·
    refine .sg 5 [0,1,5] ?_
    rcases loopO_some H with ⟨v, hv, H⟩ | hv
    case inr =>
      exact .into (.to (podestaref04_Same_l0_walk a b f_a f_b _ c0 hc0 (.inr _) (fun _ e => by cases e) (fun _ e => (Sum.inr.inj e).symm) a 0 _ rfl rfl hv))
    refine .into (.to (podestaref04_Same_l0_walk a b f_a f_b r c0 hc0 (.inl v) (fun w e => ?_) (fun _ e => by cases e) a 0 _ rfl rfl hv))
    have e := Sum.inl.inj e
    subst e
    refine .sg 2 [4] ?_
    obtain rfl := Option.some.inj H
    exact .ret Try.func28 hc0

theorem podestaref04_Same_ok (a b : List Rule) (f_a f_b : Bool) : ACalls Try.prog tab.S 28 [.sl 68 (List.map Rule.av a) f_a, .sl 68 (List.map Rule.av b) f_b] [] (.sc (.bool (zipAll podestaref04_Equal a b))) [] := by
  refine podestaref04_Same_walk a b f_a f_b _ ?_
  rw [podestaref04_Same_raw, len_bne]
  by_cases h : a.length = b.length
  · simp only [h, decide_true, Bool.not_true, cond_false]
    rw [cmp_loop (v := false) (podestaref04_Same_l0s b) b podestaref04_Equal (fun _ => rfl) (fun x r i => by rw [podestaref04_Same_l0s]) a 0 (by omega), List.drop_zero]
    cases zipAll podestaref04_Equal a b <;> rfl
  · rw [zipAll_ne _ h]
    simp only [h, decide_false, Bool.not_false, cond_true]
theorem ref_Equal_eq (a b : Rule) : podestaref04_Equal a b = (a == b) := by
  obtain ⟨⟨v, c⟩, p, ac, i1, h1, o1, h2, q1, g1⟩ := a
  obtain ⟨⟨v', c'⟩, p', ac', i1', h1', o1', h2', q1', g1'⟩ := b
  rw [podestaref04_Equal, podestaref04_Key, Bool.eq_iff_iff]
  simp only [Bool.and_eq_true, beq_iff_eq, Rule.mk.injEq, Cube.mk.injEq]
  constructor
  · rintro ⟨⟨⟨⟨⟨⟨⟨⟨⟨a2, a3⟩, a4⟩, a1⟩, a5⟩, a6⟩, a7⟩, a8⟩, a9⟩, a10⟩
    exact ⟨⟨a2, a3⟩, a4, a1, a5, a6, a7, a8, a9, a10⟩
  · rintro ⟨⟨a2, a3⟩, a4, a1, a5, a6, a7, a8, a9, a10⟩
    exact ⟨⟨⟨⟨⟨⟨⟨⟨⟨a2, a3⟩, a4⟩, a1⟩, a5⟩, a6⟩, a7⟩, a8⟩, a9⟩, a10⟩
theorem ref_Same_eq (a b : List Rule) : zipAll podestaref04_Equal a b = (a == b) := by
  rw [← zipAll_beq]
  exact congrArg (fun f => zipAll f a b) (funext fun x => funext fun y => ref_Equal_eq x y)

/-! ### rule.Same: function 42 -/
noncomputable def rule_Same_F : Go.Sh.Fn := ⟨42, bodyOf Try.f42, 8⟩
def rule_Same (a : List Rule) (b : List Rule) : Bool :=
  (zipAll rule_Equal a b)
theorem rule_Same_calls (a : List Rule) (b : List Rule) (f_a : Bool) (f_b : Bool) : ACalls Try.prog tab.S 42 [.sl 68 (List.map Rule.av a) f_a, .sl 68 (List.map Rule.av b) f_b] [] (.sc (.bool (rule_Same a b))) [] := by
  generalize H : rule_Same a b = r
  refine .of_AX rule_Same_F Try.func42 fun c0 hc0 => ?_
  rw [rule_Same] at H
  refine .sg 3 [0,1] (.rg (.sg 2 [5,6] (.cl_ [7] (caps := []) (slices_EqualFunc__api_Rule_ok a b 62 [] rule_Equal rfl rfl (fun y0 y1 => rule_Equal_calls y0 y1) f_a f_b) (.same rfl (.same rfl (.fn (caps := []) (by kernel_rfl) .nil))) (by kernel_rfl) rfl rfl (.sg 1 [4] (.dn ?_)))))
  subst H
  exact .ret Try.func42 hc0

theorem rule_Same_eq (a b : List Rule) : rule_Same a b = (a == b) := by
  rw [rule_Same, ← zipAll_beq]
  exact congrArg (fun f => zipAll f a b) (funext fun x => funext fun y => rule_Equal_eq x y)

/-! ### code.Same: function 19 -/
noncomputable def code_Same_F : Go.Sh.Fn := ⟨19, bodyOf Try.f19, 52⟩
def code_Same (a : Msg) (b : Msg) : Bool :=
  (((((((a.Kind == b.Kind) && (a.Txn == b.Txn)) && (a.E == b.E)) && (mods_Same a.Mod b.Mod)) && (a.Port == b.Port)) && (a.Head == b.Head)) && (rule_Same a.Rules b.Rules))
theorem code_Same_calls (a : Msg) (b : Msg) : ACalls Try.prog tab.S 19 [Msg.av a, Msg.av b] [] (.sc (.bool (code_Same a b))) [] := by
  generalize H : code_Same a b = r
  refine .of_AX code_Same_F Try.func19 fun c0 hc0 => ?_
  rw [code_Same] at H
  refine .sg 3 [2,3] (.rg (.sg 6 [2,3,10] (.mx 0 [2,3,16] (.sg 1 [2,3,17] (.mx 0 [2,3,23] (.sg 1 [2,3,24] (.mm 24 (((a.Kind == b.Kind) && (a.Txn == b.Txn)) && (a.E == b.E)) 6 [.pure, .pure, .read, .pure, .read, .pure] [2, 3, 30] 30 (fun z => .sc (.bool (z && (mods_Same a.Mod b.Mod)))) ?J3 (fun hb J => ?ht3) (fun hb J => ?hf3))))))))
  case ht3 =>
    exact .sg 4 [2,3,24,26,28] (.cp [2,3,24,29] (mods_Same_calls a.Mod b.Mod) (.sg 1 [2,3,30] (.cl J)))
  case hf3 =>
    exact .sg 6 [2,3,30] (.cl J)
  refine .sg 1 [2,3,31] (.mx 0 [2,3,37] (.sg 1 [2,3,38] (.mm 38 (((((a.Kind == b.Kind) && (a.Txn == b.Txn)) && (a.E == b.E)) && (mods_Same a.Mod b.Mod)) && (a.Port == b.Port)) 6 [.pure, .pure, .read, .pure, .read, .pure] [2, 3, 44] 44 (fun z => .sc (.bool (z && (a.Head == b.Head)))) ?J5 (fun hb J => ?ht5) (fun hb J => ?hf5))))
  case ht5 =>
    exact .sg 4 [2,3,38,40,42] (.eq_ [2,3,38,43] 9 (.sg 1 [2,3,44] (.cl J)))
  case hf5 =>
    exact .sg 6 [2,3,44] (.cl J)
  refine .sg 1 [2,3,45] (.mm 45 ((((((a.Kind == b.Kind) && (a.Txn == b.Txn)) && (a.E == b.E)) && (mods_Same a.Mod b.Mod)) && (a.Port == b.Port)) && (a.Head == b.Head)) 6 [.pure, .pure, .read, .pure, .read, .pure] [51] 51 (fun z => .sc (.bool (z && (rule_Same a.Rules b.Rules)))) ?J6 (fun hb J => ?ht6) (fun hb J => ?hf6))
  case ht6 =>
    exact .sg 4 [45,47,49] (.cp [45,50] (rule_Same_calls a.Rules b.Rules false false) (.sg 1 [51] (.cl J)))
  case hf6 =>
    exact .sg 6 [51] (.cl J)
  refine .sg 1 [4] (.dn ?_)
  subst H
  exact .ret Try.func19 hc0

/-! ### podestaref04.SameMods: function 27 -/
noncomputable def podestaref04_SameMods_F : Go.Sh.Fn := ⟨27, bodyOf Try.f27, 59⟩
def podestaref04_SameMods (a : Mod) (b : Mod) : Bool :=
  ((((((((a.Kind == b.Kind) && ((a.Match.Value == b.Match.Value) && (a.Match.Care == b.Match.Care))) && (a.Prio == b.Prio)) && (a.Acts == b.Acts)) && (a.Idle == b.Idle)) && (a.Hard == b.Hard)) && (a.Owner == b.Owner)) && (a.Check == b.Check))
theorem podestaref04_SameMods_calls (a : Mod) (b : Mod) : ACalls Try.prog tab.S 27 [Mod.av a, Mod.av b] [] (.sc (.bool (podestaref04_SameMods a b))) [] := by
  generalize H : podestaref04_SameMods a b = r
  refine .of_AX podestaref04_SameMods_F Try.func27 fun c0 hc0 => ?_
  rw [podestaref04_SameMods] at H
  refine .sg 3 [2,3] (.rg (.sg 6 [2,3,10] (.mm 10 (a.Kind == b.Kind) 6 [.pure, .pure, .read, .pure, .read, .pure] [2, 3, 16] 16 (fun z => .sc (.bool (z && ((a.Match.Value == b.Match.Value) && (a.Match.Care == b.Match.Care))))) ?J1 (fun hb J => ?ht1) (fun hb J => ?hf1))))
  case ht1 =>
    exact .sg 4 [2,3,10,12,14] (.eq_ [2,3,10,15] 9 (.sg 1 [2,3,16] (.cl J)))
  case hf1 =>
    exact .sg 6 [2,3,16] (.cl J)
  refine .sg 1 [2,3,17] (.mx 0 [2,3,23] (.sg 1 [2,3,24] (.mm 24 (((a.Kind == b.Kind) && ((a.Match.Value == b.Match.Value) && (a.Match.Care == b.Match.Care))) && (a.Prio == b.Prio)) 6 [.pure, .pure, .read, .pure, .read, .pure] [2, 3, 30] 30 (fun z => .sc (.bool (z && (a.Acts == b.Acts)))) ?J3 (fun hb J => ?ht3) (fun hb J => ?hf3))))
  case ht3 =>
    exact .sg 4 [2,3,24,26,28] (.cp [2,3,24,29] (podestaref04_SameActs_ok a.Acts b.Acts false false) (.sg 1 [2,3,30] (.cl J)))
  case hf3 =>
    exact .sg 6 [2,3,30] (.cl J)
  refine .sg 1 [2,3,31] (.mx 0 [2,3,37] (.sg 1 [2,3,38] (.mx 0 [2,3,44] (.sg 1 [2,3,45] (.mx 0 [2,3,51] (.sg 1 [2,3,52] (.mx 0 [58] (.sg 1 [4] (.dn ?_)))))))))
  subst H
  exact .ret Try.func27 hc0

/-! ### podestaref04.Mod: function 33 -/
noncomputable def podestaref04_Mod_F : Go.Sh.Fn := ⟨33, bodyOf Try.f33, 91⟩
def podestaref04_Mod (m1 : Mod) : Bool :=
  (bif ((((((((decide (m1.Kind < 1)) || (decide (m1.Kind > 5))) || (!(podestaref01_Cube m1.Match))) || (!(podestaref04_Acts m1.Acts))) || (!(podestaref04_span m1.Prio 65535))) || (!(podestaref04_span m1.Owner 255))) || (!(podestaref04_span m1.Idle 1048576))) || (!(podestaref04_span m1.Hard 1048576))) then
    false
  else
    (bif ((m1.Kind != 1) && (((m1.Idle != 0) || (m1.Hard != 0)) || m1.Check)) then
      false
    else
      (bif (((m1.Kind == 2) || (m1.Kind == 3)) && (m1.Prio != 0)) then
        false
      else
        (((m1.Kind != 3) && (m1.Kind != 5)) || ((((List.map Act.av m1.Acts).length : Nat) : Int) == 0)))))
theorem podestaref04_Mod_calls (m1 : Mod) : ACalls Try.prog tab.S 33 [Mod.av m1] [] (.sc (.bool (podestaref04_Mod m1))) [] := by
  generalize H : podestaref04_Mod m1 = r
  refine .of_AX podestaref04_Mod_F Try.func33 fun c0 hc0 => ?_
  rw [podestaref04_Mod] at H
  refine .sg 4 [1] (.rg (.sg 4 [1,6] (.mx 1 [1,10] (.sg 1 [1,11] (.mm 11 ((decide (m1.Kind < 1)) || (decide (m1.Kind > 5))) 5 [.pure, .pure, .pure, .read, .pure] [1, 16] 16 (fun z => .sc (.bool (z || (!(podestaref01_Cube m1.Match))))) ?J2 (fun hb J => ?ht2) (fun hb J => ?hf2))))))
  case ht2 =>
    exact .sg 5 [1,16] (.cl J)
  case hf2 =>
    exact .sg 2 [1,11,13] (.cp [1,11,14] (podestaref01_Cube_calls m1.Match) (.sg 2 [1,16] (.cl J)))
  refine .sg 1 [1,17] (.mm 17 (((decide (m1.Kind < 1)) || (decide (m1.Kind > 5))) || (!(podestaref01_Cube m1.Match))) 5 [.pure, .pure, .pure, .read, .pure] [1, 22] 22 (fun z => .sc (.bool (z || (!(podestaref04_Acts m1.Acts))))) ?J3 (fun hb J => ?ht3) (fun hb J => ?hf3))
  case ht3 =>
    exact .sg 5 [1,22] (.cl J)
  case hf3 =>
    exact .sg 2 [1,17,19] (.cp [1,17,20] (podestaref04_Acts_calls m1.Acts false) (.sg 2 [1,22] (.cl J)))
  refine .sg 1 [1,23] (.mm 23 ((((decide (m1.Kind < 1)) || (decide (m1.Kind > 5))) || (!(podestaref01_Cube m1.Match))) || (!(podestaref04_Acts m1.Acts))) 5 [.pure, .pure, .pure, .read, .pure] [1, 28] 28 (fun z => .sc (.bool (z || (!(podestaref04_span m1.Prio 65535))))) ?J4 (fun hb J => ?ht4) (fun hb J => ?hf4))
  case ht4 =>
    exact .sg 5 [1,28] (.cl J)
  case hf4 =>
    exact .sg 2 [1,23,25] (.cp [1,23,26] (podestaref04_span_calls m1.Prio 65535) (.sg 2 [1,28] (.cl J)))
  refine .sg 1 [1,29] (.mm 29 (((((decide (m1.Kind < 1)) || (decide (m1.Kind > 5))) || (!(podestaref01_Cube m1.Match))) || (!(podestaref04_Acts m1.Acts))) || (!(podestaref04_span m1.Prio 65535))) 5 [.pure, .pure, .pure, .read, .pure] [1, 34] 34 (fun z => .sc (.bool (z || (!(podestaref04_span m1.Owner 255))))) ?J5 (fun hb J => ?ht5) (fun hb J => ?hf5))
  case ht5 =>
    exact .sg 5 [1,34] (.cl J)
  case hf5 =>
    exact .sg 2 [1,29,31] (.cp [1,29,32] (podestaref04_span_calls m1.Owner 255) (.sg 2 [1,34] (.cl J)))
  refine .sg 1 [1,35] (.mm 35 ((((((decide (m1.Kind < 1)) || (decide (m1.Kind > 5))) || (!(podestaref01_Cube m1.Match))) || (!(podestaref04_Acts m1.Acts))) || (!(podestaref04_span m1.Prio 65535))) || (!(podestaref04_span m1.Owner 255))) 5 [.pure, .pure, .pure, .read, .pure] [1, 40] 40 (fun z => .sc (.bool (z || (!(podestaref04_span m1.Idle 1048576))))) ?J6 (fun hb J => ?ht6) (fun hb J => ?hf6))
  case ht6 =>
    exact .sg 5 [1,40] (.cl J)
  case hf6 =>
    exact .sg 2 [1,35,37] (.cp [1,35,38] (podestaref04_span_calls m1.Idle 1048576) (.sg 2 [1,40] (.cl J)))
  refine .sg 1 [1,41] (.mm 41 (((((((decide (m1.Kind < 1)) || (decide (m1.Kind > 5))) || (!(podestaref01_Cube m1.Match))) || (!(podestaref04_Acts m1.Acts))) || (!(podestaref04_span m1.Prio 65535))) || (!(podestaref04_span m1.Owner 255))) || (!(podestaref04_span m1.Idle 1048576))) 5 [.pure, .pure, .pure, .read, .pure] [1, 46] 46 (fun z => .sc (.bool (z || (!(podestaref04_span m1.Hard 1048576))))) ?J7 (fun hb J => ?ht7) (fun hb J => ?hf7))
  case ht7 =>
    exact .sg 5 [1,46] (.cl J)
  case hf7 =>
    exact .sg 2 [1,41,43] (.cp [1,41,44] (podestaref04_span_calls m1.Hard 1048576) (.sg 2 [1,46] (.cl J)))
  refine .dn (.cd ((((((((decide (m1.Kind < 1)) || (decide (m1.Kind > 5))) || (!(podestaref01_Cube m1.Match))) || (!(podestaref04_Acts m1.Acts))) || (!(podestaref04_span m1.Prio 65535))) || (!(podestaref04_span m1.Owner 255))) || (!(podestaref04_span m1.Idle 1048576))) || (!(podestaref04_span m1.Hard 1048576))) H (fun hb H => ?_) (fun hb H => ?_))
  ·
    refine .sg 2 [2] ?_
    subst H
    exact .ret Try.func33 hc0
  ·
    refine .sg 3 [1] (.rg (.sg 4 [1,50] (.mm 50 (m1.Kind != 1) 13 [.pure, .pure, .read, .pure, .pure, .pure, .pure, .read, .pure, .pure, .pure, .read, .pure] [1, 63] 63 (fun z => .sc (.bool (z && (((m1.Idle != 0) || (m1.Hard != 0)) || m1.Check)))) ?J10 (fun hb J => ?ht10) (fun hb J => ?hf10))))
    case ht10 =>
      exact .sg 4 [1,50,54] (.mx 1 [1,50,58] (.sg 1 [1,50,59] (.mx 1 [1,50,62] (.sg 1 [1,63] (.cl J)))))
    case hf10 =>
      exact .sg 13 [1,63] (.cl J)
    refine .dn (.cd ((m1.Kind != 1) && (((m1.Idle != 0) || (m1.Hard != 0)) || m1.Check)) H (fun hb H => ?_) (fun hb H => ?_))
    ·
      refine .sg 2 [2] ?_
      subst H
      exact .ret Try.func33 hc0
    ·
      refine .sg 3 [1] (.rg (.sg 4 [1,67] (.mx 1 [1,71] (.sg 1 [1,72] (.mx 0 [1,76] (.dn (.cd (((m1.Kind == 2) || (m1.Kind == 3)) && (m1.Prio != 0)) H (fun hb H => ?_) (fun hb H => ?_))))))))
      ·
        refine .sg 2 [2] ?_
        subst H
        exact .ret Try.func33 hc0
      ·
        refine .sg 2 [1] (.rg (.sg 4 [1,80] (.mx 0 [1,84] (.sg 1 [1,85] (.mx 1 [90] (.sg 1 [2] (.dn ?_)))))))
        subst H
        exact .ret Try.func33 hc0

/-! ### podestaref09.Msg: function 16 -/
noncomputable def podestaref09_Msg_F : Go.Sh.Fn := ⟨16, bodyOf Try.f16, 169⟩
def podestaref09_Msg_raw (m1 : Msg) : Option (Bool) :=
  (bif ((decide (m1.Txn < 0)) || (decide (m1.Txn > 4294967295))) then
    some false
  else
    (bif (m1.Kind == 1) then
      some ((((podestaref04_Mod m1.Mod) && (m1.E == 0)) && ((m1.Port == 0) && (m1.Head == [0, 0, 0, 0, 0, 0, 0, 0, 0, 0, 0, 0]))) && ((((List.map Rule.av m1.Rules).length : Nat) : Int) == 0))
    else
      (bif (m1.Kind == 6) then
        some (((((podestaref04_SameMods m1.Mod ({ Kind := 0, Match := ({ Value := [0, 0, 0, 0, 0, 0, 0, 0, 0, 0, 0, 0], Care := [0, 0, 0, 0, 0, 0, 0, 0, 0, 0, 0, 0] } : Cube), Prio := 0, Acts := [], Idle := 0, Hard := 0, Owner := 0, Check := false } : Mod)) && (decide (m1.E ≥ 1))) && (decide (m1.E ≤ 17))) && ((m1.Port == 0) && (m1.Head == [0, 0, 0, 0, 0, 0, 0, 0, 0, 0, 0, 0]))) && ((((List.map Rule.av m1.Rules).length : Nat) : Int) == 0))
      else
        (bif (m1.Kind == 8) then
          some ((((((podestaref04_SameMods m1.Mod ({ Kind := 0, Match := ({ Value := [0, 0, 0, 0, 0, 0, 0, 0, 0, 0, 0, 0], Care := [0, 0, 0, 0, 0, 0, 0, 0, 0, 0, 0, 0] } : Cube), Prio := 0, Acts := [], Idle := 0, Hard := 0, Owner := 0, Check := false } : Mod)) && (m1.E == 0)) && (decide (m1.Port ≥ 1))) && (decide (m1.Port ≤ 16))) && (podestaref01_Head m1.Head)) && ((((List.map Rule.av m1.Rules).length : Nat) : Int) == 0))
        else
          (bif (m1.Kind == 9) then
            (bif ((((podestaref04_SameMods m1.Mod ({ Kind := 0, Match := ({ Value := [0, 0, 0, 0, 0, 0, 0, 0, 0, 0, 0, 0], Care := [0, 0, 0, 0, 0, 0, 0, 0, 0, 0, 0, 0] } : Cube), Prio := 0, Acts := [], Idle := 0, Hard := 0, Owner := 0, Check := false } : Mod)) && (m1.E == 0)) && ((m1.Port == 0) && (m1.Head == [0, 0, 0, 0, 0, 0, 0, 0, 0, 0, 0, 0]))) && ((((List.map Rule.av m1.Rules).length : Nat) : Int) == 1)) then
              (ixO m1.Rules 0).bind fun x =>
              some (podestaref04_Rule x)
            else
              some false)
          else
            (bif (m1.Kind == 10) then
              (bif ((((podestaref04_SameMods m1.Mod ({ Kind := 0, Match := ({ Value := [0, 0, 0, 0, 0, 0, 0, 0, 0, 0, 0, 0], Care := [0, 0, 0, 0, 0, 0, 0, 0, 0, 0, 0, 0] } : Cube), Prio := 0, Acts := [], Idle := 0, Hard := 0, Owner := 0, Check := false } : Mod)) && (m1.E == 0)) && ((m1.Port == 0) && (m1.Head == [0, 0, 0, 0, 0, 0, 0, 0, 0, 0, 0, 0]))) && (decide ((((List.map Rule.av m1.Rules).length : Nat) : Int) ≤ 65535))) then
                (podestaref04_Table_raw m1.Rules).bind fun x1 =>
                some x1
              else
                some false)
            else
              some ((((((podestaref04_SameMods m1.Mod ({ Kind := 0, Match := ({ Value := [0, 0, 0, 0, 0, 0, 0, 0, 0, 0, 0, 0], Care := [0, 0, 0, 0, 0, 0, 0, 0, 0, 0, 0, 0] } : Cube), Prio := 0, Acts := [], Idle := 0, Hard := 0, Owner := 0, Check := false } : Mod)) && (m1.E == 0)) && ((m1.Port == 0) && (m1.Head == [0, 0, 0, 0, 0, 0, 0, 0, 0, 0, 0, 0]))) && ((((List.map Rule.av m1.Rules).length : Nat) : Int) == 0)) && (decide (m1.Kind ≥ 2))) && (decide (m1.Kind ≤ 7)))))))))
theorem podestaref09_Msg_walk (m1 : Msg) (r : Bool) (H : podestaref09_Msg_raw m1 = some r) : ACalls Try.prog tab.S 16 [Msg.av m1] [] (.sc (.bool r)) [] := by
  refine .of_AX podestaref09_Msg_F Try.func16 fun c0 hc0 => ?_
  rw [podestaref09_Msg_raw] at H
  refine .sg 3 [1] (.rg (.sg 3 [1,6,7] (.cp [1,8] (ds := [(0, true), (87, false)]) (podestaref04_SameMods_calls m1.Mod ({ Kind := 0, Match := ({ Value := [0, 0, 0, 0, 0, 0, 0, 0, 0, 0, 0, 0], Care := [0, 0, 0, 0, 0, 0, 0, 0, 0, 0, 0, 0] } : Cube), Prio := 0, Acts := [], Idle := 0, Hard := 0, Owner := 0, Check := false } : Mod)) (.sg 1 [1,3] (.dn (.sg 1 [1,3] (.rg (.sg 4 [1,3,12] (.mm 12 (m1.Port == 0) 5 [.pure, .pure, .pure, .read, .pure] [1, 3, 17] 17 (fun z => .sc (.bool (z && (m1.Head == [0, 0, 0, 0, 0, 0, 0, 0, 0, 0, 0, 0])))) ?J1 (fun hb J => ?ht1) (fun hb J => ?hf1))))))))))
  case ht1 =>
    exact .sg 3 [1,3,12,14,15] (.eq_ [1,3,12,16] 9 (.sg 1 [1,3,17] (.cl J)))
  case hf1 =>
    exact .sg 5 [1,3,17] (.cl J)
  refine .sg 1 [1,3,4] (.dn (.sg 2 [1,3,4] (.rg (.sg 4 [1,3,4,21] (.mx 1 [1,3,4,25] (.dn (.cd ((decide (m1.Txn < 0)) || (decide (m1.Txn > 4294967295))) H (fun hb H => ?_) (fun hb H => ?_))))))))
  ·
    refine .sg 2 [2] ?_
    obtain rfl := Option.some.inj H
    exact .ret Try.func16 hc0
  ·
    refine .sg 7 [1,3,4,27,28] (.cd (m1.Kind == 1) H (fun hb H => ?_) (fun hb H => ?_))
    ·
      refine .sg 1 [1,4] (.rg (.sg 2 [1,4,31] (.cp [1,4,32] (podestaref04_Mod_calls m1.Mod) (.sg 1 [1,4,33] (.mx 0 [1,4,37] (.sg 1 [1,4,38] (.mx 0 [1,40] (.sg 1 [1,41] (.mx 0 [46] (.sg 1 [2] (.dn ?_)))))))))))
      obtain rfl := Option.some.inj H
      exact .ret Try.func16 hc0
    ·
      refine .sg 2 [1,3,4,27,47] (.cd (m1.Kind == 6) H (fun hb H => ?_) (fun hb H => ?_))
      ·
        refine .sg 1 [1,3,4] (.rg (.sg 2 [1,4,50] (.mx 0 [1,4,54] (.sg 1 [1,4,55] (.mx 0 [1,4,59] (.sg 1 [1,4,60] (.mx 0 [1,62] (.sg 1 [1,63] (.mx 0 [68] (.sg 1 [2] (.dn ?_)))))))))))
        obtain rfl := Option.some.inj H
        exact .ret Try.func16 hc0
      ·
        refine .sg 2 [1,3,4,27,69] (.cd (m1.Kind == 8) H (fun hb H => ?_) (fun hb H => ?_))
        ·
          refine .sg 1 [1,3] (.rg (.sg 2 [1,72] (.mx 0 [1,76] (.sg 1 [1,77] (.mx 0 [1,81] (.sg 1 [1,82] (.mx 0 [1,86] (.sg 1 [1,87] (.mm 87 ((((podestaref04_SameMods m1.Mod ({ Kind := 0, Match := ({ Value := [0, 0, 0, 0, 0, 0, 0, 0, 0, 0, 0, 0], Care := [0, 0, 0, 0, 0, 0, 0, 0, 0, 0, 0, 0] } : Cube), Prio := 0, Acts := [], Idle := 0, Hard := 0, Owner := 0, Check := false } : Mod)) && (m1.E == 0)) && (decide (m1.Port ≥ 1))) && (decide (m1.Port ≤ 16))) 4 [.pure, .pure, .read, .pure] [1, 91] 91 (fun z => .sc (.bool (z && (podestaref01_Head m1.Head)))) ?J25 (fun hb J => ?ht25) (fun hb J => ?hf25))))))))))
          case ht25 =>
            exact .sg 2 [1,87,89] (.cp [1,87,90] (podestaref01_Head_calls m1.Head) (.sg 1 [1,91] (.cl J)))
          case hf25 =>
            exact .sg 4 [1,91] (.cl J)
          refine .sg 1 [1,92] (.mx 0 [97] (.sg 1 [2] (.dn ?_)))
          obtain rfl := Option.some.inj H
          exact .ret Try.func16 hc0
        ·
          refine .sg 2 [1,3,4,27,98] (.cd (m1.Kind == 9) H (fun hb H => ?_) (fun hb H => ?_))
          ·
            refine .sg 1 [1,3,4] (.rg (.sg 2 [1,4,101] (.mx 0 [1,4,105] (.sg 1 [1,4,106] (.mx 0 [1,108] (.sg 1 [1,109] (.mx 0 [1,114] (.sg 1 [1,115] (.sp 115 ((((podestaref04_SameMods m1.Mod ({ Kind := 0, Match := ({ Value := [0, 0, 0, 0, 0, 0, 0, 0, 0, 0, 0, 0], Care := [0, 0, 0, 0, 0, 0, 0, 0, 0, 0, 0, 0] } : Cube), Prio := 0, Acts := [], Idle := 0, Hard := 0, Owner := 0, Check := false } : Mod)) && (m1.E == 0)) && ((m1.Port == 0) && (m1.Head == [0, 0, 0, 0, 0, 0, 0, 0, 0, 0, 0, 0]))) && ((((List.map Rule.av m1.Rules).length : Nat) : Int) == 1)) H (fun hb H => ?_) (fun hb H => ?_))))))))))
            ·
              refine .sg 2 [115,117] (bndO H fun x hv H => (.xi [115,118] Rule.av hv (.sg 1 [115,119] (.cp [115,120] (podestaref04_Rule_calls x) (.sg 2 [2] (.dn ?_))))))
              obtain rfl := Option.some.inj H
              exact .ret Try.func16 hc0
            ·
              refine .sg 7 [2] (.dn ?_)
              obtain rfl := Option.some.inj H
              exact .ret Try.func16 hc0
          ·
            refine .sg 2 [1,3,4,122] (.cd (m1.Kind == 10) H (fun hb H => ?_) (fun hb H => ?_))
            ·
              refine .sg 1 [1,3,4] (.rg (.sg 2 [1,4,125] (.mx 0 [1,4,129] (.sg 1 [1,4,130] (.mx 0 [1,132] (.sg 1 [1,133] (.mx 0 [1,138] (.sg 1 [1,139] (.sp 139 ((((podestaref04_SameMods m1.Mod ({ Kind := 0, Match := ({ Value := [0, 0, 0, 0, 0, 0, 0, 0, 0, 0, 0, 0], Care := [0, 0, 0, 0, 0, 0, 0, 0, 0, 0, 0, 0] } : Cube), Prio := 0, Acts := [], Idle := 0, Hard := 0, Owner := 0, Check := false } : Mod)) && (m1.E == 0)) && ((m1.Port == 0) && (m1.Head == [0, 0, 0, 0, 0, 0, 0, 0, 0, 0, 0, 0]))) && (decide ((((List.map Rule.av m1.Rules).length : Nat) : Int) ≤ 65535))) H (fun hb H => ?_) (fun hb H => ?_))))))))))
              ·
                refine .sg 2 [139,141] (bndO H fun x1 hv H => (.cp [139,142] (podestaref04_Table_walk m1.Rules false x1 hv) (.sg 2 [2] (.dn ?_))))
                obtain rfl := Option.some.inj H
                exact .ret Try.func16 hc0
              ·
                refine .sg 5 [2] (.dn ?_)
                obtain rfl := Option.some.inj H
                exact .ret Try.func16 hc0
            ·
              refine .sg 3 [1,3,4] (.rg (.sg 2 [1,4,145] (.mx 0 [1,4,149] (.sg 1 [1,4,150] (.mx 0 [1,152] (.sg 1 [1,153] (.mx 0 [1,158] (.sg 1 [1,159] (.mx 0 [1,163] (.sg 1 [1,164] (.mx 0 [168] (.sg 1 [2] (.dn ?_)))))))))))))
              obtain rfl := Option.some.inj H
              exact .ret Try.func16 hc0

/-! ### podestaref09.Num: function 37 -/
noncomputable def podestaref09_Num_F : Go.Sh.Fn := ⟨37, bodyOf Try.f37, 24⟩
def podestaref09_Num_l0  : Nat → Int → Int → List Int → Option ((List Int))
  | 0, _, _, _ => none
  | m + 1, n1, k1, out =>
    (bif (decide (k1 ≥ 0)) then
    (ixO out k1).bind fun x =>
    podestaref09_Num_l0 m (IntKind.u64.wrap (Int.tdiv n1 256)) (IntKind.i64.wrap (k1 - 1)) (out.set k1.toNat (IntKind.u8.wrap (Int.tmod n1 256)))
  else
    some out)
theorem podestaref09_Num_l0_walk (q0 : Nat) (n : Int) (size : Int)  (r : (List Int)) (c0 : Ctx) (hc0 : c0.m.length = 0) (res : (List Int)) (J : AX Try.prog tab podestaref09_Num_F c0 (Rp tab.S c0 (.sl 5 (List.map (intA .u8) r) false) []) (some ⟨[.code [1, 1, 1]], [(5, .own 0 1000000)], [.row 5 (List.map (intA .u8) res) 1000000 true]⟩)) :
    ∀ (m : Nat) (n1 : Int) (k1 : Int) (out : List Int) (H : podestaref09_Num_l0  m n1 k1 out = some res), AX Try.prog tab podestaref09_Num_F c0 (Rp tab.S c0 (.sl 5 (List.map (intA .u8) r) false) []) (some ⟨[.code [1, 1, 0, 1, 0, 0], .loop [1, 1, 0, 1, 0], .blk 0, .code [1, 1, 1]], [(0, .sc (.int .u64 n1)), (5, .own 0 1000000), (6, .sc (.int .i64 k1))], [.row 5 (List.map (intA .u8) out) 1000000 true]⟩) := by
  intro m
  induction m with
  | zero => intro n1 k1 out H; cases H
  | succ m ih =>
    intro n1 k1 out H
    rw [podestaref09_Num_l0] at H
    refine .sg 3 [0,5,6,12] (.cd (decide (k1 ≥ 0)) H (fun hb H => ?_) (fun hb H => ?_))
    ·
      exact .sg 4 [0,5,6] (.rg (.sg 3 [0,5,6,15,16,17] (.re [0,5,6,15,16,18] (b := 256) (by decide) (.sg 1 [0,5,6,15,16,19] (bndO H fun x hv_x H => (.xo [0,5,6,19,20] (ixO_req hv_x (intA .u8)) (.st [0,5,6] (intA .u8) (IntKind.u8.wrap (Int.tmod n1 256)) (ixO_map hv_x (intA .u8)).2 (.dn (.rg (.sg 1 [5,6,21] (.qu [5,6,22] (b := 256) (by decide) (.sg 1 [0,5,6] (.dn (.sg 2 [0,5,6] (.kp [0,5,6] (.into (.to (ih (IntKind.u64.wrap (Int.tdiv n1 256)) (IntKind.i64.wrap (k1 - 1)) (out.set k1.toNat (IntKind.u8.wrap (Int.tmod n1 256))) H))))))))))))))))))
    ·
      refine .sg 1 [5] (.kp [5] ?_)
      obtain rfl := Option.some.inj H
      exact .to J
def podestaref09_Num_raw (q0 : Nat) (n : Int) (size : Int) : Option ((List Int)) :=
  reqO (decide (0 ≤ size) && decide (size * 1 ≤ 140737488355328)) (
  (podestaref09_Num_l0 q0 n (IntKind.i64.wrap (size - 1)) (List.replicate (size).toNat (0 : Int))).bind fun v =>
  some v)
theorem podestaref09_Num_walk (q0 : Nat) (n : Int) (size : Int) (r : (List Int)) (H : podestaref09_Num_raw q0 n size = some r) : ACalls Try.prog tab.S 37 [.sc (.int .u64 n), .sc (.int .i64 size)] [] (.sl 5 (List.map (intA .u8) r) false) [] := by
  refine .of_AX podestaref09_Num_F Try.func37 fun c0 hc0 => ?_
  rw [podestaref09_Num_raw] at H
  refine .sg 3 [0,1] (.rg (.sg 1 [0,1,7] (reqH H fun hreq H => (.ms [0,1,8] .u8 hreq (.sg 1 [0,1,5] (.dn (.sg 4 [0,5,6] ?_)))))))
  refine bndO H fun v hv H => (.into (.to (podestaref09_Num_l0_walk q0 n size r c0 hc0 v ?_ q0 n (IntKind.i64.wrap (size - 1)) (List.replicate (size).toNat (0 : Int)) hv)))
  refine .sg 2 [4] ?_
  obtain rfl := Option.some.inj H
  exact .ret Try.func37 hc0

/-! ### (*podesta/podestaref09.Eye).Get: function 24 -/
noncomputable def podestaref09_Eye_Get_F : Go.Sh.Fn := ⟨24, bodyOf Try.f24, 59⟩
def podestaref09_Eye_Get_l0 (x : Eye) (size : Int) : Nat → Int → Int → Option (Int)
  | 0, _, _ => none
  | m + 1, n, i =>
    (bif (decide (i < size)) then
    (ixO x.B (IntKind.i64.wrap (x.At + i))).bind fun x1 =>
    podestaref09_Eye_Get_l0 x size m (IntKind.u64.wrap ((IntKind.u64.wrap (n * 256)) + (IntKind.u64.wrap x1))) (IntKind.i64.wrap (i + 1))
  else
    some n)
theorem podestaref09_Eye_Get_l0_walk (q0 : Nat) (x : Eye) (size : Int)  (r : Int × Eye) (c0 : Ctx) (hc0 : c0.m.length = 1) (res : Int) (J : AX Try.prog tab podestaref09_Eye_Get_F c0 (Rp tab.S c0 (.sc (.int .u64 r.1)) [.box 64 [.sl 5 (List.map (intA .u8) r.2.B) false, .sc (.int .i64 r.2.At), .sc (.bool r.2.Short)]]) (some ⟨[.code [1, 1, 1, 1]], [(0, .ptr 0 0 none), (1, .sc (.int .i64 size)), (5, .sc (.int .u64 res))], [.box 64 (Eye.ch x)]⟩)) :
    ∀ (m : Nat) (n : Int) (i : Int) (H : podestaref09_Eye_Get_l0 x size m n i = some res), AX Try.prog tab podestaref09_Eye_Get_F c0 (Rp tab.S c0 (.sc (.int .u64 r.1)) [.box 64 [.sl 5 (List.map (intA .u8) r.2.B) false, .sc (.int .i64 r.2.At), .sc (.bool r.2.Short)]]) (some ⟨[.code [1, 1, 1, 0, 1, 0, 0], .loop [1, 1, 1, 0, 1, 0], .blk 0, .code [1, 1, 1, 1]], [(0, .ptr 0 0 none), (1, .sc (.int .i64 size)), (5, .sc (.int .u64 n)), (6, .sc (.int .i64 i))], [.box 64 (Eye.ch x)]⟩) := by
  intro m
  induction m with
  | zero => intro n i H; cases H
  | succ m ih =>
    intro n i H
    rw [podestaref09_Eye_Get_l0] at H
    refine .sg 3 [0,1,5,6,30] (.cd (decide (i < size)) H (fun hb H => ?_) (fun hb H => ?_))
    ·
      exact .sg 3 [0,1,5,6] (.rg (.sg 12 [0,1,6,34,38,44] (bndO H fun x1 hv H => (.xi [0,1,6,34,45] (intA .u8) hv (.sg 4 [0,1,5,6] (.dn (.sg 2 [0,1,5,6] (.kp [0,1,5,6] (.into (.to (ih (IntKind.u64.wrap ((IntKind.u64.wrap (n * 256)) + (IntKind.u64.wrap x1))) (IntKind.i64.wrap (i + 1)) H)))))))))))
    ·
      refine .sg 1 [0,1,5] (.kp [0,1,5] ?_)
      obtain rfl := Option.some.inj H
      exact .to J
def podestaref09_Eye_Get_raw (q0 : Nat) (x : Eye) (size : Int) : Option (Int × Eye) :=
  (bif (x.Short || (decide ((IntKind.i64.wrap (x.At + size)) > (((List.map (intA .u8) x.B).length : Nat) : Int)))) then
    some (0, ({ x with Short := true } : Eye))
  else
    (podestaref09_Eye_Get_l0 x size q0 0 0).bind fun v =>
    some (v, ({ x with At := (IntKind.i64.wrap (x.At + size)) } : Eye)))
theorem podestaref09_Eye_Get_walk (q0 : Nat) (x : Eye) (size : Int) (r : Int × Eye) (H : podestaref09_Eye_Get_raw q0 x size = some r) : ACalls Try.prog tab.S 24 [.ptr 0 0 none, .sc (.int .i64 size)] [.box 64 [.sl 5 (List.map (intA .u8) x.B) false, .sc (.int .i64 x.At), .sc (.bool x.Short)]] (.sc (.int .u64 r.1)) [.box 64 [.sl 5 (List.map (intA .u8) r.2.B) false, .sc (.int .i64 r.2.At), .sc (.bool r.2.Short)]] := by
  refine .of_AX podestaref09_Eye_Get_F Try.func24 fun c0 hc0 => ?_
  rw [podestaref09_Eye_Get_raw] at H
  refine .sg 4 [0,1] (.rg (.sg 5 [0,1,11] (.mx 1 [0,1,24] (.dn (.cd (x.Short || (decide ((IntKind.i64.wrap (x.At + size)) > (((List.map (intA .u8) x.B).length : Nat) : Int)))) H (fun hb H => ?_) (fun hb H => ?_))))))
  ·
    refine .sg 4 [4] ?_
    obtain rfl := Option.some.inj H
    exact .ret Try.func24 hc0 [0]
  ·
    refine .sg 7 [0,1,5,6] ?_
    refine bndO H fun v hv H => (.into (.to (podestaref09_Eye_Get_l0_walk q0 x size r c0 hc0 v ?_ q0 0 0 hv)))
    refine .sg 4 [4] ?_
    obtain rfl := Option.some.inj H
    exact .ret Try.func24 hc0 [0]

/-! ### (*podesta/podestaref09.Eye).head: function 25 -/
noncomputable def podestaref09_Eye_head_F : Go.Sh.Fn := ⟨25, bodyOf Try.f25, 14⟩
def podestaref09_Eye_head_l0s : Nat → Nat → List Int → Int → Bool → List Int → Option ((List Int) × Int × Bool × (List Int))
  | 0, i, x_0, x_1, x_2, h1 =>
    some (x_0, x_1, x_2, h1)
  | rest + 1, i, x_0, x_1, x_2, h1 =>
    (podestaref09_Eye_Get_raw 20 ({ B := x_0, At := x_1, Short := x_2 } : Eye) 8).bind fun v =>
    podestaref09_Eye_head_l0s rest (i + 1) v.2.B v.2.At v.2.Short (h1.set (i) v.1)
theorem podestaref09_Eye_head_l0_walk (x : Eye) (r : (List Int) × Eye) (c0 : Ctx) (hc0 : c0.m.length = 1) (res : (List Int) × Int × Bool × (List Int)) (J : AX Try.prog tab podestaref09_Eye_head_F c0 (Rp tab.S c0 (.arr .u64 12 r.1) [.box 64 [.sl 5 (List.map (intA .u8) r.2.B) false, .sc (.int .i64 r.2.At), .sc (.bool r.2.Short)]]) (some ⟨[.code [1, 1, 1]], [(2, .ptr 1 0 none), (3, .ptr 2 0 none)], [.box 64 [.sl 5 (List.map (intA .u8) res.1) false, .sc (.int .i64 res.2.1), .sc (.bool res.2.2.1)], .box 27 [.arr .u64 12 [0, 0, 0, 0, 0, 0, 0, 0, 0, 0, 0, 0]], .box 27 [.arr .u64 12 res.2.2.2]]⟩)) :
    ∀ (rest : Nat) (i : Nat) (z : Int) (hI : z = ((i : Nat) : Int)) (hd : i + rest = 12) (x_0 : List Int) (x_1 : Int) (x_2 : Bool) (h1 : List Int) (H : podestaref09_Eye_head_l0s rest i x_0 x_1 x_2 h1 = some res), AX Try.prog tab podestaref09_Eye_head_F c0 (Rp tab.S c0 (.arr .u64 12 r.1) [.box 64 [.sl 5 (List.map (intA .u8) r.2.B) false, .sc (.int .i64 r.2.At), .sc (.bool r.2.Short)]]) (some ⟨[.code [1, 1, 0, 1, 0, 0], .loop [1, 1, 0, 1, 0], .blk 0, .code [1, 1, 1]], [(0, .ptr 0 0 none), (2, .ptr 1 0 none), (3, .ptr 2 0 none), (4, .sc (.int .i64 z))], [.box 64 [.sl 5 (List.map (intA .u8) x_0) false, .sc (.int .i64 x_1), .sc (.bool x_2)], .box 27 [.arr .u64 12 [0, 0, 0, 0, 0, 0, 0, 0, 0, 0, 0, 0]], .box 27 [.arr .u64 12 h1]]⟩) := by
  intro rest
  induction rest with
  | zero =>
    intro i z hI hd x_0 x_1 x_2 h1 H
    subst hI
    rw [podestaref09_Eye_head_l0s] at H
    have hc : (decide (((i : Nat) : Int) < 12)) = false := decide_eq_false (by omega)
    refine .sg 3 [0,2,3,4,6] (.cdF hc (.sg 1 [2,3] (.kp [2,3] ?_)))
    obtain rfl := Option.some.inj H
    exact .to J
  | succ rest ih =>
    intro i z hI hd x_0 x_1 x_2 h1 H
    subst hI
    rw [podestaref09_Eye_head_l0s] at H
    have hlt_i : i < 12 := by omega
    have hc : (decide (((i : Nat) : Int) < 12)) = true := decide_eq_true (by omega)
    have hw : IntKind.i64.wrap (((i : Nat) : Int) + 1) = ((i + 1 : Nat) : Int) := wrapI_succ (by omega)
    refine .sg 3 [0,2,3,4,6] (.cdT hc (.sg 3 [0,2,3,4] (.rg (.sg 2 [0,2,3,4,9,10] (bndO H fun v hv H => (.ch [0,2,3,4,9,11] [0] ((podestaref09_Eye_Get_walk 20) ({ B := x_0, At := x_1, Short := x_2 } : Eye) 8 v hv) ?_))))))
    have hreq := idx_in 12 hlt_i (by decide)
    exact .xa [0,2,3,4,11,12] hreq (.sg 1 [0,2,3,4] (.dn (.sg 2 [0,2,3,4] (.kp [0,2,3,4] (.into (.cl (ih (i + 1) _ hw (by omega) v.2.B v.2.At v.2.Short (h1.set (i) v.1) H)))))))

def podestaref09_Eye_head_raw (x : Eye) : Option ((List Int) × Eye) :=
  (podestaref09_Eye_head_l0s 12 0 x.B x.At x.Short [0, 0, 0, 0, 0, 0, 0, 0, 0, 0, 0, 0]).bind fun v =>
  some (v.2.2.2, ({ B := v.1, At := v.2.1, Short := v.2.2.1 } : Eye))
theorem podestaref09_Eye_head_walk (x : Eye) (r : (List Int) × Eye) (H : podestaref09_Eye_head_raw x = some r) : ACalls Try.prog tab.S 25 [.ptr 0 0 none] [.box 64 [.sl 5 (List.map (intA .u8) x.B) false, .sc (.int .i64 x.At), .sc (.bool x.Short)]] (.arr .u64 12 r.1) [.box 64 [.sl 5 (List.map (intA .u8) r.2.B) false, .sc (.int .i64 r.2.At), .sc (.bool r.2.Short)]] := by
  refine .of_AX podestaref09_Eye_head_F Try.func25 fun c0 hc0 => ?_
  rw [podestaref09_Eye_head_raw] at H
  refine .sg 8 [0,2,3,4] ?_
  refine bndO H fun v hv H => (.into (.to (podestaref09_Eye_head_l0_walk x r c0 hc0 v ?_ 12 0 _ rfl rfl x.B x.At x.Short [0, 0, 0, 0, 0, 0, 0, 0, 0, 0, 0, 0] hv)))
  refine .sg 2 [2] ?_
  obtain rfl := Option.some.inj H
  exact .ret Try.func25 hc0 [0]

/-! ### (*podesta/podestaref09.Eye).acts: function 26 -/
noncomputable def podestaref09_Eye_acts_F : Go.Sh.Fn := ⟨26, bodyOf Try.f26, 42⟩
def podestaref09_Eye_acts_l0 (n : Int) : Nat → Int → List Int → Int → Bool → List Act → Option ((List Int) × Int × Bool × (List Act))
  | 0, _, _, _, _, _ => none
  | m + 1, i, x_0, x_1, x_2, out =>
    (bif ((decide (i < n)) && (!x_2)) then
    (podestaref09_Eye_Get_raw 20 ({ B := x_0, At := x_1, Short := x_2 } : Eye) 1).bind fun v1 =>
    (podestaref09_Eye_Get_raw 20 v1.2 1).bind fun v2 =>
    (podestaref09_Eye_Get_raw 20 v2.2 1).bind fun v3 =>
    (podestaref09_Eye_Get_raw 20 v3.2 8).bind fun v4 =>
    fitO (out.length + [({ Kind := (IntKind.i64.wrap v1.1), Port := (IntKind.i64.wrap v2.1), Field := (IntKind.i64.wrap v3.1), Value := v4.1 } : Act)].length) 32 (
    podestaref09_Eye_acts_l0 n m (IntKind.i64.wrap (i + 1)) v4.2.B v4.2.At v4.2.Short (out ++ [({ Kind := (IntKind.i64.wrap v1.1), Port := (IntKind.i64.wrap v2.1), Field := (IntKind.i64.wrap v3.1), Value := v4.1 } : Act)]))
  else
    some (x_0, x_1, x_2, out))
theorem podestaref09_Eye_acts_l0_walk (q0 : Nat) (x : Eye) (v : Int × Eye) (n : Int)  (r : (List Act) × Eye) (c0 : Ctx) (hc0 : c0.m.length = 1) (res : (List Int) × Int × Bool × (List Act)) (J : AX Try.prog tab podestaref09_Eye_acts_F c0 (Rp tab.S c0 (.sl 87 (List.map Act.av r.1) false) [.box 64 [.sl 5 (List.map (intA .u8) r.2.B) false, .sc (.int .i64 r.2.At), .sc (.bool r.2.Short)]]) (some ⟨[.code [1, 1, 1, 1]], [(3, .own 1 1000000)], [.box 64 [.sl 5 (List.map (intA .u8) res.1) false, .sc (.int .i64 res.2.1), .sc (.bool res.2.2.1)], .row 87 (List.map Act.av res.2.2.2) 1000000 true]⟩)) :
    ∀ (m : Nat) (i : Int) (x_0 : List Int) (x_1 : Int) (x_2 : Bool) (out : List Act) (H : podestaref09_Eye_acts_l0 n m i x_0 x_1 x_2 out = some res), AX Try.prog tab podestaref09_Eye_acts_F c0 (Rp tab.S c0 (.sl 87 (List.map Act.av r.1) false) [.box 64 [.sl 5 (List.map (intA .u8) r.2.B) false, .sc (.int .i64 r.2.At), .sc (.bool r.2.Short)]]) (some ⟨[.code [1, 1, 1, 0, 1, 0, 0], .loop [1, 1, 1, 0, 1, 0], .blk 0, .code [1, 1, 1, 1]], [(0, .ptr 0 0 none), (3, .own 1 1000000), (4, .sc (.int .i64 n)), (5, .sc (.int .i64 i))], [.box 64 [.sl 5 (List.map (intA .u8) x_0) false, .sc (.int .i64 x_1), .sc (.bool x_2)], .row 87 (List.map Act.av out) 1000000 true]⟩) := by
  intro m
  induction m with
  | zero => intro i x_0 x_1 x_2 out H; cases H
  | succ m ih =>
    intro i x_0 x_1 x_2 out H
    rw [podestaref09_Eye_acts_l0] at H
    refine .sg 2 [0,3,4,5] (.rg (.sg 4 [0,3,4,5,13] (.mx 0 [0,3,4,5,19] (.dn (.cd ((decide (i < n)) && (!x_2)) H (fun hb H => ?_) (fun hb H => ?_))))))
    ·
      exact .sg 6 [0,3,4,5,6] (.rg (.sg 1 [0,3,4,5,6,22] (bndO H fun v1 hv H => (.ch [0,3,4,5,6,23] [0] ((podestaref09_Eye_Get_walk 20) ({ B := x_0, At := x_1, Short := x_2 } : Eye) 1 v1 hv) (.sg 3 [0,3,4,5,6] (.dn (.sg 1 [0,3,4,5,6] (.rg (.sg 1 [0,3,4,5,6,26] (bndO H fun v2 hv H => (.ch [0,3,4,5,6,27] [0] ((podestaref09_Eye_Get_walk 20) v1.2 1 v2 hv) (.sg 3 [0,3,4,5,6] (.dn (.sg 1 [0,3,4,5,6] (.rg (.sg 1 [0,3,4,5,6,30] (bndO H fun v3 hv H => (.ch [0,3,4,5,6,31] [0] ((podestaref09_Eye_Get_walk 20) v2.2 1 v3 hv) (.sg 3 [0,3,4,5,6] (.dn (.sg 1 [0,3,4,5,6] (.rg (.sg 1 [0,3,4,5,6,34] (bndO H fun v4 hv H => (.ch [0,3,4,5,6,35] [0] ((podestaref09_Eye_Get_walk 20) v3.2 8 v4 hv) (.sg 2 [0,3,4,5,6] (.dn (.rg (.sg 3 [0,4,5,37,39] (fitH H fun hfit H => (.ap [0,4,5,40] Act.av hfit (.sg 1 [0,3,4,5] (.dn (.sg 2 [0,3,4,5] (.tl hc0 [0,1] [0,3,4,5] (.into (.to (ih (IntKind.i64.wrap (i + 1)) v4.2.B v4.2.At v4.2.Short (out ++ [({ Kind := (IntKind.i64.wrap v1.1), Port := (IntKind.i64.wrap v2.1), Field := (IntKind.i64.wrap v3.1), Value := v4.1 } : Act)]) H))))))))))))))))))))))))))))))))))))))
    ·
      refine .sg 1 [3] (.kp [3] ?_)
      obtain rfl := Option.some.inj H
      exact .to J
def podestaref09_Eye_acts_raw (q0 : Nat) (x : Eye) : Option ((List Act) × Eye) :=
  (podestaref09_Eye_Get_raw 20 x 1).bind fun v =>
  (podestaref09_Eye_acts_l0 (IntKind.i64.wrap v.1) q0 0 v.2.B v.2.At v.2.Short ([] : List Act)).bind fun v1 =>
  some (v1.2.2.2, ({ B := v1.1, At := v1.2.1, Short := v1.2.2.1 } : Eye))
theorem podestaref09_Eye_acts_walk (q0 : Nat) (x : Eye) (r : (List Act) × Eye) (H : podestaref09_Eye_acts_raw q0 x = some r) : ACalls Try.prog tab.S 26 [.ptr 0 0 none] [.box 64 [.sl 5 (List.map (intA .u8) x.B) false, .sc (.int .i64 x.At), .sc (.bool x.Short)]] (.sl 87 (List.map Act.av r.1) false) [.box 64 [.sl 5 (List.map (intA .u8) r.2.B) false, .sc (.int .i64 r.2.At), .sc (.bool r.2.Short)]] := by
  refine .of_AX podestaref09_Eye_acts_F Try.func26 fun c0 hc0 => ?_
  rw [podestaref09_Eye_acts_raw] at H
  refine .sg 5 [0,3] (.rg (.sg 1 [0,3,7] (bndO H fun v hv H => (.ch [0,3,8] [0] ((podestaref09_Eye_Get_walk 20) x 1 v hv) (.sg 2 [0,3,4] (.dn (.sg 4 [0,3,4,5] (.ad 3 87 true (.kp [0,3,4,5] ?_)))))))))
  refine bndO H fun v1 hv H => (.into (.to (podestaref09_Eye_acts_l0_walk q0 x v (IntKind.i64.wrap v.1) r c0 hc0 v1 ?_ q0 0 v.2.B v.2.At v.2.Short ([] : List Act) hv)))
  refine .sg 2 [2] ?_
  obtain rfl := Option.some.inj H
  exact .ret Try.func26 hc0 [0]

/-! ### podestaref09.heads: function 38 -/
noncomputable def podestaref09_heads_F : Go.Sh.Fn := ⟨38, bodyOf Try.f38, 56⟩
def podestaref09_heads_l0s (c : Cube) : Nat → Nat → List Int → Option ((List Int))
  | 0, i, out =>
    some out
  | rest + 1, i, out =>
    (podestaref09_Num_raw 20 (c.Value.getD (i) 0) 8).bind fun x1 =>
    fitO (out.length + x1.length) 1 (
    podestaref09_heads_l0s c rest (i + 1) (out ++ x1))
theorem podestaref09_heads_l0_walk (c : Cube) (prio : Int) (idle : Int) (hard : Int) (owner : Int) (r : (List Int)) (c0 : Ctx) (hc0 : c0.m.length = 0) (res : (List Int)) (J : AX Try.prog tab podestaref09_heads_F c0 (Rp tab.S c0 (.sl 5 (List.map (intA .u8) r) false) []) (some ⟨[.code [1, 1, 1]], [(1, .sc (.int .i64 prio)), (2, .sc (.int .i64 idle)), (3, .sc (.int .i64 hard)), (4, .sc (.int .i64 owner)), (5, .ptr 0 0 none), (11, .own 1 1000000)], [.box 29 (Cube.ch c), .row 5 (List.map (intA .u8) res) 1000000 true]⟩)) :
    ∀ (rest : Nat) (i : Nat) (z : Int) (hI : z = ((i : Nat) : Int)) (hd : i + rest = 12) (out : List Int) (H : podestaref09_heads_l0s c rest i out = some res), AX Try.prog tab podestaref09_heads_F c0 (Rp tab.S c0 (.sl 5 (List.map (intA .u8) r) false) []) (some ⟨[.code [1, 1, 0, 1, 0, 0], .loop [1, 1, 0, 1, 0], .blk 0, .code [1, 1, 1]], [(1, .sc (.int .i64 prio)), (2, .sc (.int .i64 idle)), (3, .sc (.int .i64 hard)), (4, .sc (.int .i64 owner)), (5, .ptr 0 0 none), (11, .own 1 1000000), (12, .sc (.int .i64 z))], [.box 29 (Cube.ch c), .row 5 (List.map (intA .u8) out) 1000000 true]⟩) := by
  intro rest
  induction rest with
  | zero =>
    intro i z hI hd out H
    subst hI
    rw [podestaref09_heads_l0s] at H
    have hc : (decide (((i : Nat) : Int) < 12)) = false := decide_eq_false (by omega)
    refine .sg 3 [1,2,3,4,5,11,12,15] (.cdF hc (.sg 1 [1,2,3,4,5,11] (.kp [1,2,3,4,5,11] ?_)))
    obtain rfl := Option.some.inj H
    exact .to J
  | succ rest ih =>
    intro i z hI hd out H
    subst hI
    rw [podestaref09_heads_l0s] at H
    have hlt_i : i < 12 := by omega
    have hc : (decide (((i : Nat) : Int) < 12)) = true := decide_eq_true (by omega)
    have hw : IntKind.i64.wrap (((i : Nat) : Int) + 1) = ((i + 1 : Nat) : Int) := wrapI_succ (by omega)
    refine .sg 3 [1,2,3,4,5,11,12,15] (.cdT hc (.sg 3 [1,2,3,4,5,11,12] (.rg (.sg 3 [1,2,3,4,5,12,18,19,20] ?_))))
    have hreq := idx_in 12 hlt_i (by decide)
    exact .xa [1,2,3,4,5,12,18,21] hreq (.sg 1 [1,2,3,4,5,12,18,22] (bndO H fun x1 hv H => (.cp [1,2,3,4,5,12,18,23] ((podestaref09_Num_walk 20) (c.Value.getD (i) 0) 8 x1 hv) (fitH H fun hfit H => (.ap [1,2,3,4,5,12,24] (intA .u8) hfit (.sg 1 [1,2,3,4,5,11,12] (.dn (.sg 2 [1,2,3,4,5,11,12] (.tl hc0 [0,1] [1,2,3,4,5,11,12] (.into (.cl (ih (i + 1) _ hw (by omega) (out ++ x1) H))))))))))))

def podestaref09_heads_l1s (c : Cube) : Nat → Nat → List Int → Option ((List Int))
  | 0, i1, out1 =>
    some out1
  | rest + 1, i1, out1 =>
    (podestaref09_Num_raw 20 (c.Care.getD (i1) 0) 8).bind fun x2 =>
    fitO (out1.length + x2.length) 1 (
    podestaref09_heads_l1s c rest (i1 + 1) (out1 ++ x2))
theorem podestaref09_heads_l1_walk (c : Cube) (prio : Int) (idle : Int) (hard : Int) (owner : Int) (v : (List Int)) (r : (List Int)) (c0 : Ctx) (hc0 : c0.m.length = 0) (res : (List Int)) (J : AX Try.prog tab podestaref09_heads_F c0 (Rp tab.S c0 (.sl 5 (List.map (intA .u8) r) false) []) (some ⟨[.code [1, 1, 1, 1]], [(1, .sc (.int .i64 prio)), (2, .sc (.int .i64 idle)), (3, .sc (.int .i64 hard)), (4, .sc (.int .i64 owner)), (11, .own 1 1000000)], [.box 29 (Cube.ch c), .row 5 (List.map (intA .u8) res) 1000000 true]⟩)) :
    ∀ (rest : Nat) (i1 : Nat) (z : Int) (hI : z = ((i1 : Nat) : Int)) (hd : i1 + rest = 12) (out1 : List Int) (H : podestaref09_heads_l1s c rest i1 out1 = some res), AX Try.prog tab podestaref09_heads_F c0 (Rp tab.S c0 (.sl 5 (List.map (intA .u8) r) false) []) (some ⟨[.code [1, 1, 1, 0, 1, 0, 0], .loop [1, 1, 1, 0, 1, 0], .blk 2, .code [1, 1, 1, 1]], [(1, .sc (.int .i64 prio)), (2, .sc (.int .i64 idle)), (3, .sc (.int .i64 hard)), (4, .sc (.int .i64 owner)), (5, .ptr 0 0 none), (11, .own 1 1000000), (13, .sc (.int .i64 z))], [.box 29 (Cube.ch c), .row 5 (List.map (intA .u8) out1) 1000000 true]⟩) := by
  intro rest
  induction rest with
  | zero =>
    intro i1 z hI hd out1 H
    subst hI
    rw [podestaref09_heads_l1s] at H
    have hc : (decide (((i1 : Nat) : Int) < 12)) = false := decide_eq_false (by omega)
    refine .sg 3 [1,2,3,4,5,11,13,26] (.cdF hc (.sg 1 [1,2,3,4,11] (.kp [1,2,3,4,11] ?_)))
    obtain rfl := Option.some.inj H
    exact .to J
  | succ rest ih =>
    intro i1 z hI hd out1 H
    subst hI
    rw [podestaref09_heads_l1s] at H
    have hlt_i1 : i1 < 12 := by omega
    have hc : (decide (((i1 : Nat) : Int) < 12)) = true := decide_eq_true (by omega)
    have hw : IntKind.i64.wrap (((i1 : Nat) : Int) + 1) = ((i1 + 1 : Nat) : Int) := wrapI_succ (by omega)
    refine .sg 3 [1,2,3,4,5,11,13,26] (.cdT hc (.sg 3 [1,2,3,4,5,11,13] (.rg (.sg 3 [1,2,3,4,5,13,29,30,31] ?_))))
    have hreq := idx_in 12 hlt_i1 (by decide)
    exact .xa [1,2,3,4,5,13,29,32] hreq (.sg 1 [1,2,3,4,5,13,29,33] (bndO H fun x2 hv H => (.cp [1,2,3,4,5,13,29,34] ((podestaref09_Num_walk 20) (c.Care.getD (i1) 0) 8 x2 hv) (fitH H fun hfit H => (.ap [1,2,3,4,5,13,35] (intA .u8) hfit (.sg 1 [1,2,3,4,5,11,13] (.dn (.sg 2 [1,2,3,4,5,11,13] (.tl hc0 [0,1] [1,2,3,4,5,11,13] (.into (.cl (ih (i1 + 1) _ hw (by omega) (out1 ++ x2) H))))))))))))

def podestaref09_heads_raw (c : Cube) (prio : Int) (idle : Int) (hard : Int) (owner : Int) : Option ((List Int)) :=
  (podestaref09_heads_l0s c 12 0 ([] : List Int)).bind fun v =>
  (podestaref09_heads_l1s c 12 0 v).bind fun v1 =>
  (podestaref09_Num_raw 20 (IntKind.u64.wrap prio) 2).bind fun x2 =>
  fitO (v1.length + x2.length) 1 (
  (podestaref09_Num_raw 20 (IntKind.u64.wrap idle) 4).bind fun x3 =>
  fitO ((v1 ++ x2).length + x3.length) 1 (
  (podestaref09_Num_raw 20 (IntKind.u64.wrap hard) 4).bind fun x4 =>
  fitO (((v1 ++ x2) ++ x3).length + x4.length) 1 (
  fitO ((((v1 ++ x2) ++ x3) ++ x4).length + [(IntKind.u8.wrap owner)].length) 1 (
  some ((((v1 ++ x2) ++ x3) ++ x4) ++ [(IntKind.u8.wrap owner)])))))
theorem podestaref09_heads_walk (c : Cube) (prio : Int) (idle : Int) (hard : Int) (owner : Int) (r : (List Int)) (H : podestaref09_heads_raw c prio idle hard owner = some r) : ACalls Try.prog tab.S 38 [Cube.av c, .sc (.int .i64 prio), .sc (.int .i64 idle), .sc (.int .i64 hard), .sc (.int .i64 owner)] [] (.sl 5 (List.map (intA .u8) r) false) [] := by
  refine .of_AX podestaref09_heads_F Try.func38 fun c0 hc0 => ?_
  rw [podestaref09_heads_raw] at H
  refine .sg 8 [1,2,3,4,5,11,12] (.ad 11 5 true (.kp [1,2,3,4,5,11,12] ?_))
  refine bndO H fun v hv H => (.into (.to (podestaref09_heads_l0_walk c prio idle hard owner r c0 hc0 v ?_ 12 0 _ rfl rfl ([] : List Int) hv)))
  refine .sg 4 [1,2,3,4,5,11,13] ?_
  refine bndO H fun v1 hv H => (.into (.to (podestaref09_heads_l1_walk c prio idle hard owner v r c0 hc0 v1 ?_ 12 0 _ rfl rfl v hv)))
  refine .sg 1 [1,2,3,4,11] (.rg (.sg 3 [2,3,4,36,38] (bndO H fun x2 hv H => (.cp [2,3,4,36,39] ((podestaref09_Num_walk 20) (IntKind.u64.wrap prio) 2 x2 hv) (fitH H fun hfit H => (.ap [2,3,4,40] (intA .u8) hfit (.sg 1 [2,3,4,11] (.dn (.sg 1 [2,3,4,11] (.rg (.sg 3 [3,4,41,43] (bndO H fun x3 hv H => (.cp [3,4,41,44] ((podestaref09_Num_walk 20) (IntKind.u64.wrap idle) 4 x3 hv) (fitH H fun hfit H => (.ap [3,4,45] (intA .u8) hfit (.sg 1 [3,4,11] (.dn (.sg 1 [3,4,11] (.rg (.sg 3 [4,46,48] (bndO H fun x4 hv H => (.cp [4,46,49] ((podestaref09_Num_walk 20) (IntKind.u64.wrap hard) 4 x4 hv) (fitH H fun hfit H => (.ap [4,50] (intA .u8) hfit (.sg 1 [4,11] (.dn (.sg 1 [4,11] (.rg (.sg 4 [51,54] (fitH H fun hfit H => (.ap [55] (intA .u8) hfit (.sg 1 [10] (.dn ?_)))))))))))))))))))))))))))))))))
  obtain rfl := Option.some.inj H
  exact .ret Try.func38 hc0

/-! ### podestaref09.acts: function 39 -/
noncomputable def podestaref09_acts_F : Go.Sh.Fn := ⟨39, bodyOf Try.f39, 45⟩
def podestaref09_acts_l0s : List Act → List Int → Option ((List Int))
  | [], out =>
    some out
  | x :: rest, out =>
    fitO (out.length + [(IntKind.u8.wrap x.Kind), (IntKind.u8.wrap x.Port), (IntKind.u8.wrap x.Field)].length) 1 (
    (podestaref09_Num_raw 20 x.Value 8).bind fun x1 =>
    fitO ((out ++ [(IntKind.u8.wrap x.Kind), (IntKind.u8.wrap x.Port), (IntKind.u8.wrap x.Field)]).length + x1.length) 1 (
    podestaref09_acts_l0s rest ((out ++ [(IntKind.u8.wrap x.Kind), (IntKind.u8.wrap x.Port), (IntKind.u8.wrap x.Field)]) ++ x1)))
theorem podestaref09_acts_l0_walk (l : List Act) (f_l : Bool) (r : (List Int)) (c0 : Ctx) (hc0 : c0.m.length = 0) (res : (List Int)) (J : AX Try.prog tab podestaref09_acts_F c0 (Rp tab.S c0 (.sl 5 (List.map (intA .u8) r) false) []) (some ⟨[.code [1, 1, 1]], [(3, .own 0 0)], [.row 5 (List.map (intA .u8) res) 0 true]⟩)) :
    ∀ (rest : List Act) (i : Nat) (z : Int) (hI : z = ((i : Nat) : Int)) (hd : l.drop i = rest) (out : List Int) (H : podestaref09_acts_l0s rest out = some res), AX Try.prog tab podestaref09_acts_F c0 (Rp tab.S c0 (.sl 5 (List.map (intA .u8) r) false) []) (some ⟨[.code [1, 1, 0, 1, 0, 0], .loop [1, 1, 0, 1, 0], .blk 0, .code [1, 1, 1]], [(0, .sl 87 (List.map Act.av l) f_l), (3, .own 0 0), (4, .sc (.int .i64 z))], [.row 5 (List.map (intA .u8) out) 0 true]⟩) := by
  intro rest
  induction rest with
  | nil =>
    intro i z hI hd out H
    subst hI
    rw [podestaref09_acts_l0s] at H
    refine .facts 0 fun hf => ?_
    have hlen : l.length ≤ 9223372036854775807 := by have hq := len_ok hf.2.1; rw [List.length_map] at hq; exact hq
    have hge : l.length ≤ i := List.drop_eq_nil_iff.1 hd
    have hc : (decide (((i : Nat) : Int) < (((List.map Act.av l).length : Nat) : Int))) = false := by rw [List.length_map]; exact decide_eq_false (by omega)
    refine .sg 3 [0,3,4,12] (.cdF hc (.sg 1 [3] (.kp [3] ?_)))
    obtain rfl := Option.some.inj H
    exact .to J
  | cons x rest ih =>
    intro i z hI hd out H
    subst hI
    rw [podestaref09_acts_l0s] at H
    refine .facts 0 fun hf => ?_
    have hlen : l.length ≤ 9223372036854775807 := by have hq := len_ok hf.2.1; rw [List.length_map] at hq; exact hq
    obtain ⟨hlt, hv_i, hd2⟩ := drop_cons hd
    have hc : (decide (((i : Nat) : Int) < (((List.map Act.av l).length : Nat) : Int))) = true := by rw [List.length_map]; exact decide_eq_true (by omega)
    have hw : IntKind.i64.wrap (((i : Nat) : Int) + 1) = ((i + 1 : Nat) : Int) := wrapI_succ (by omega)
    exact .sg 3 [0,3,4,12] (.cdT hc (.sg 4 [0,3,4] (.rg (.sg 3 [0,4,15,16,17] (.xi [0,4,15,18] Act.av hv_i (.sg 5 [0,4,15,21,22,23] (.xi [0,4,15,21,24] Act.av hv_i (.sg 5 [0,4,15,21,27,28,29] (.xi [0,4,15,21,27,30] Act.av hv_i (.sg 4 [0,4,15,34] (fitH H fun hfit H => (.ap [0,4,35] (intA .u8) hfit (.sg 1 [0,3,4] (.dn (.rg (.sg 3 [0,4,36,37,38] (.xi [0,4,36,39] Act.av hv_i (.sg 2 [0,4,36,41] (bndO H fun x1 hv H => (.cp [0,4,36,42] ((podestaref09_Num_walk 20) x.Value 8 x1 hv) (fitH H fun hfit H => (.ap [0,4,43] (intA .u8) hfit (.sg 1 [0,3,4] (.dn (.sg 2 [0,3,4] (.tl hc0 [0] [0,3,4] (.into (.cl (ih (i + 1) _ hw hd2 ((out ++ [(IntKind.u8.wrap x.Kind), (IntKind.u8.wrap x.Port), (IntKind.u8.wrap x.Field)]) ++ x1) H)))))))))))))))))))))))))))))

def podestaref09_acts_raw (l : List Act) : Option ((List Int)) :=
  (podestaref09_acts_l0s l [(IntKind.u8.wrap (((List.map Act.av l).length : Nat) : Int))]).bind fun v =>
  some v
theorem podestaref09_acts_walk (l : List Act) (f_l : Bool) (r : (List Int)) (H : podestaref09_acts_raw l = some r) : ACalls Try.prog tab.S 39 [.sl 87 (List.map Act.av l) f_l] [] (.sl 5 (List.map (intA .u8) r) false) [] := by
  refine .of_AX podestaref09_acts_F Try.func39 fun c0 hc0 => ?_
  rw [podestaref09_acts_raw] at H
  refine .sg 8 [0,3,4] (.ad 3 5 false (.kp [0,3,4] ?_))
  refine bndO H fun v hv H => (.into (.to (podestaref09_acts_l0_walk l f_l r c0 hc0 v ?_ l 0 _ rfl rfl [(IntKind.u8.wrap (((List.map Act.av l).length : Nat) : Int))] hv)))
  refine .sg 2 [2] ?_
  obtain rfl := Option.some.inj H
  exact .ret Try.func39 hc0

/-! ### podestaref09.SameMsgs: function 12 -/
noncomputable def podestaref09_SameMsgs_F : Go.Sh.Fn := ⟨12, bodyOf Try.f12, 76⟩
def podestaref09_SameMsgs_l0s (b : List Msg) : List Msg → Nat → Option (Sum (Unit) (Bool))
  | [], i =>
    some (.inl ())
  | x :: rest, i =>
    (ixO b ((i : Nat) : Int)).bind fun x1 =>
    (bif (((((((x.Kind != x1.Kind) || (x.Txn != x1.Txn)) || (x.E != x1.E)) || (!(podestaref04_SameMods x.Mod x1.Mod))) || (x.Port != x1.Port)) || (!(x.Head == x1.Head))) || (!(zipAll podestaref04_Equal x.Rules x1.Rules))) then
      some (.inr false)
    else
      podestaref09_SameMsgs_l0s b rest (i + 1) )
theorem podestaref09_SameMsgs_l0_walk (a : List Msg) (b : List Msg) (f_a : Bool) (f_b : Bool) (r : Bool) (c0 : Ctx) (hc0 : c0.m.length = 0) (res : Sum (Unit) (Bool)) (J : ∀ w : Unit, res = .inl w → AX Try.prog tab podestaref09_SameMsgs_F c0 (Rp tab.S c0 (.sc (.bool r)) []) (some ⟨[.code [1, 1, 1]], [], []⟩)) (Jr : ∀ w, res = .inr w → w = r) :
    ∀ (rest : List Msg) (i : Nat) (z : Int) (hI : z = ((i : Nat) : Int)) (hd : a.drop i = rest) (H : podestaref09_SameMsgs_l0s b rest i = some res), AX Try.prog tab podestaref09_SameMsgs_F c0 (Rp tab.S c0 (.sc (.bool r)) []) (some ⟨[.code [1, 1, 0, 1, 0, 0], .loop [1, 1, 0, 1, 0], .blk 0, .code [1, 1, 1]], [(0, .sl 35 (List.map Msg.av a) f_a), (1, .sl 35 (List.map Msg.av b) f_b), (5, .sc (.int .i64 z))], []⟩) := by
  intro rest
  induction rest with
  | nil =>
    intro i z hI hd  H
    subst hI
    rw [podestaref09_SameMsgs_l0s] at H
    refine .facts 0 fun hf => ?_
    have hlen : a.length ≤ 9223372036854775807 := by have hq := len_ok hf.2.1; rw [List.length_map] at hq; exact hq
    have hge : a.length ≤ i := List.drop_eq_nil_iff.1 hd
    have hc : (decide (((i : Nat) : Int) < (((List.map Msg.av a).length : Nat) : Int))) = false := by rw [List.length_map]; exact decide_eq_false (by omega)
    exact .sg 3 [0,1,5,16] (.cdF hc (.sg 1 [] (.kp [] (.to (J () (Option.some.inj H).symm)))))
  | cons x rest ih =>
    intro i z hI hd  H
    subst hI
    rw [podestaref09_SameMsgs_l0s] at H
    refine .facts 0 fun hf => ?_
    have hlen : a.length ≤ 9223372036854775807 := by have hq := len_ok hf.2.1; rw [List.length_map] at hq; exact hq
    obtain ⟨hlt, hv_i, hd2⟩ := drop_cons hd
    have hc : (decide (((i : Nat) : Int) < (((List.map Msg.av a).length : Nat) : Int))) = true := by rw [List.length_map]; exact decide_eq_true (by omega)
    have hw : IntKind.i64.wrap (((i : Nat) : Int) + 1) = ((i + 1 : Nat) : Int) := wrapI_succ (by omega)
    refine .sg 3 [0,1,5,16] (.cdT hc (.sg 4 [0,1,5] (bndO H fun x1 hv_x1 H => (.rp hc0 [0, 1, 5, 6, 7] [(2, [(19, .sl 35 (List.map Msg.av a) f_a), (20, .sc (.int .i64 ((i : Nat) : Int)))], .ep [.sc (.int .i64 x.Kind), .sc (.int .i64 x.Txn), .sc (.int .i64 x.E), .sc (.int .i64 x.Mod.Kind), .arr .u64 12 x.Mod.Match.Value, .arr .u64 12 x.Mod.Match.Care, .sc (.int .i64 x.Mod.Prio), .sl 87 (List.map Act.av x.Mod.Acts) false, .sc (.int .i64 x.Mod.Idle), .sc (.int .i64 x.Mod.Hard), .sc (.int .i64 x.Mod.Owner), .sc (.bool x.Mod.Check), .sc (.int .i64 x.Port), .arr .u64 12 x.Head, .sl 68 (List.map Rule.av x.Rules) false] 0 none), (6, [(23, .sl 35 (List.map Msg.av b) f_b), (24, .sc (.int .i64 ((i : Nat) : Int)))], .ep [.sc (.int .i64 x1.Kind), .sc (.int .i64 x1.Txn), .sc (.int .i64 x1.E), .sc (.int .i64 x1.Mod.Kind), .arr .u64 12 x1.Mod.Match.Value, .arr .u64 12 x1.Mod.Match.Care, .sc (.int .i64 x1.Mod.Prio), .sl 87 (List.map Act.av x1.Mod.Acts) false, .sc (.int .i64 x1.Mod.Idle), .sc (.int .i64 x1.Mod.Hard), .sc (.int .i64 x1.Mod.Owner), .sc (.bool x1.Mod.Check), .sc (.int .i64 x1.Port), .arr .u64 12 x1.Head, .sl 68 (List.map Rule.av x1.Rules) false] 0 none)] [[0, 1], [1, 0]] (.cons (fun _ => LSpec.xi Msg.av hv_i) (.cons (fun _ => LSpec.xi Msg.av hv_x1) .nil)) (by kernel_rfl) (.sg 1 [0,1,5,6,7] (.rg (.sg 6 [0,1,5,6,7,32] (.mx 1 [0,1,5,6,7,38] (.sg 1 [0,1,5,6,7,39] (.mx 1 [0,1,5,6,7,45] (.sg 1 [0,1,5,6,7,46] (.mm 46 (((x.Kind != x1.Kind) || (x.Txn != x1.Txn)) || (x.E != x1.E)) 7 [.pure, .pure, .pure, .read, .pure, .read, .pure] [0, 1, 5, 6, 7, 53] 53 (fun z => .sc (.bool (z || (!(podestaref04_SameMods x.Mod x1.Mod))))) ?J21 (fun hb J => ?ht21) (fun hb J => ?hf21)))))))))))))
    case ht21 =>
      exact .sg 7 [0,1,5,6,7,53] (.cl J)
    case hf21 =>
      exact .sg 4 [0,1,5,6,7,46,48,50] (.cp [0,1,5,6,7,46,51] (podestaref04_SameMods_calls x.Mod x1.Mod) (.sg 2 [0,1,5,6,7,53] (.cl J)))
    refine .sg 1 [0,1,5,6,7,54] (.mx 1 [0,1,5,6,7,60] (.sg 1 [0,1,5,6,7,61] (.mm 61 (((((x.Kind != x1.Kind) || (x.Txn != x1.Txn)) || (x.E != x1.E)) || (!(podestaref04_SameMods x.Mod x1.Mod))) || (x.Port != x1.Port)) 6 [.pure, .pure, .read, .pure, .read, .pure] [0, 1, 5, 6, 7, 67] 67 (fun z => .sc (.bool (z || (!(x.Head == x1.Head))))) ?J23 (fun hb J => ?ht23) (fun hb J => ?hf23))))
    case ht23 =>
      exact .sg 6 [0,1,5,6,7,67] (.cl J)
    case hf23 =>
      exact .sg 4 [0,1,5,6,7,61,63,65] (.eq_ [0,1,5,6,7,61,66] 9 (.sg 1 [0,1,5,6,7,67] (.cl J)))
    refine .sg 1 [0,1,5,6,7,68] (.mm 68 ((((((x.Kind != x1.Kind) || (x.Txn != x1.Txn)) || (x.E != x1.E)) || (!(podestaref04_SameMods x.Mod x1.Mod))) || (x.Port != x1.Port)) || (!(x.Head == x1.Head))) 7 [.pure, .pure, .pure, .read, .pure, .read, .pure] [0, 1, 5, 75] 75 (fun z => .sc (.bool (z || (!(zipAll podestaref04_Equal x.Rules x1.Rules))))) ?J24 (fun hb J => ?ht24) (fun hb J => ?hf24))
    case ht24 =>
      exact .sg 7 [0,1,5,75] (.cl J)
    case hf24 =>
      exact .sg 4 [0,1,5,68,70,72] (.cp [0,1,5,68,73] (podestaref04_Same_ok x.Rules x1.Rules false false) (.sg 2 [0,1,5,75] (.cl J)))
    refine .dn (.cd (((((((x.Kind != x1.Kind) || (x.Txn != x1.Txn)) || (x.E != x1.E)) || (!(podestaref04_SameMods x.Mod x1.Mod))) || (x.Port != x1.Port)) || (!(x.Head == x1.Head))) || (!(zipAll podestaref04_Equal x.Rules x1.Rules))) H (fun hb H => ?_) (fun hb H => ?_))
    ·
      refine .sg 2 [4] ?_
      obtain rfl := Option.some.inj H
      obtain rfl := Jr _ rfl
      exact .ret Try.func12 hc0
    ·
      exact .sg 3 [0,1,5] (.tl hc0 [] [0,1,5] (.into (.cl (ih (i + 1) _ hw hd2 H))))

def podestaref09_SameMsgs_raw (a : List Msg) (b : List Msg) : Option (Bool) :=
  (bif ((((List.map Msg.av a).length : Nat) : Int) != (((List.map Msg.av b).length : Nat) : Int)) then
    some false
  else
    loopO (podestaref09_SameMsgs_l0s b a 0) fun v =>
    some true)
theorem podestaref09_SameMsgs_walk (a : List Msg) (b : List Msg) (f_a : Bool) (f_b : Bool) (r : Bool) (H : podestaref09_SameMsgs_raw a b = some r) : ACalls Try.prog tab.S 12 [.sl 35 (List.map Msg.av a) f_a, .sl 35 (List.map Msg.av b) f_b] [] (.sc (.bool r)) [] := by
  refine .of_AX podestaref09_SameMsgs_F Try.func12 fun c0 hc0 => ?_
  rw [podestaref09_SameMsgs_raw] at H
  refine .sg 5 [0,1,12] (.cd ((((List.map Msg.av a).length : Nat) : Int) != (((List.map Msg.av b).length : Nat) : Int)) H (fun hb H => ?_) (fun hb H => ?_))
  ·
    refine .sg 2 [4] ?_
    obtain rfl := Option.some.inj H
    exact .ret Try.func12 hc0
  ·
    refine .sg 5 [0,1,5] ?_
    rcases loopO_some H with ⟨v, hv, H⟩ | hv
    case inr =>
      exact .into (.to (podestaref09_SameMsgs_l0_walk a b f_a f_b _ c0 hc0 (.inr _) (fun _ e => by cases e) (fun _ e => (Sum.inr.inj e).symm) a 0 _ rfl rfl hv))
    refine .into (.to (podestaref09_SameMsgs_l0_walk a b f_a f_b r c0 hc0 (.inl v) (fun w e => ?_) (fun _ e => by cases e) a 0 _ rfl rfl hv))
    have e := Sum.inl.inj e
    subst e
    refine .sg 2 [4] ?_
    obtain rfl := Option.some.inj H
    exact .ret Try.func12 hc0

/-! ### podestaref09.Encode: function 17 -/
noncomputable def podestaref09_Encode_F : Go.Sh.Fn := ⟨17, bodyOf Try.f17, 146⟩
def podestaref09_Encode_l0s (m1 : Msg) : Nat → Nat → List Int → Option ((List Int))
  | 0, i, out =>
    some out
  | rest + 1, i, out =>
    (podestaref09_Num_raw 20 (m1.Head.getD (i) 0) 8).bind fun x5 =>
    fitO (out.length + x5.length) 1 (
    podestaref09_Encode_l0s m1 rest (i + 1) (out ++ x5))
theorem podestaref09_Encode_l0_walk (q1 : Nat) (m1 : Msg) (x : (List Int)) (r : (List Int)) (c0 : Ctx) (hc0 : c0.m.length = 0) (res : (List Int)) (J : AX Try.prog tab podestaref09_Encode_F c0 (Rp tab.S c0 (.own 0 1000000) [.row 5 (List.map (intA .u8) r) 1000000 true]) (some ⟨[.blk 0, .code [1, 1, 1]], [(3, .own 0 1000000)], [.row 5 (List.map (intA .u8) res) 1000000 true, .row 5 (List.map (intA .u8) [(IntKind.u8.wrap m1.Port)]) 1000000 true]⟩)) :
    ∀ (rest : Nat) (i : Nat) (z : Int) (hI : z = ((i : Nat) : Int)) (hd : i + rest = 12) (out : List Int) (H : podestaref09_Encode_l0s m1 rest i out = some res), AX Try.prog tab podestaref09_Encode_F c0 (Rp tab.S c0 (.own 0 1000000) [.row 5 (List.map (intA .u8) r) 1000000 true]) (some ⟨[.code [1, 1, 0, 1, 0, 1, 1, 1, 1, 1, 0, 1, 1, 0, 0], .loop [1, 1, 0, 1, 0, 1, 1, 1, 1, 1, 0, 1, 1, 0], .blk 1, .blk 0, .code [1, 1, 1]], [(1, .ep [.sc (.int .i64 m1.Kind), .sc (.int .i64 m1.Txn), .sc (.int .i64 m1.E), .sc (.int .i64 m1.Mod.Kind), .arr .u64 12 m1.Mod.Match.Value, .arr .u64 12 m1.Mod.Match.Care, .sc (.int .i64 m1.Mod.Prio), .sl 87 (List.map Act.av m1.Mod.Acts) false, .sc (.int .i64 m1.Mod.Idle), .sc (.int .i64 m1.Mod.Hard), .sc (.int .i64 m1.Mod.Owner), .sc (.bool m1.Mod.Check), .sc (.int .i64 m1.Port), .arr .u64 12 m1.Head, .sl 68 (List.map Rule.av m1.Rules) false] 0 none), (3, .own 0 1000000), (4, .sc (.int .i64 z))], [.row 5 (List.map (intA .u8) out) 1000000 true, .row 5 (List.map (intA .u8) [(IntKind.u8.wrap m1.Port)]) 1000000 true]⟩) := by
  intro rest
  induction rest with
  | zero =>
    intro i z hI hd out H
    subst hI
    rw [podestaref09_Encode_l0s] at H
    have hc : (decide (((i : Nat) : Int) < 12)) = false := decide_eq_false (by omega)
    refine .sg 3 [1,3,4,77] (.cdF hc (.sg 1 [3] (.kp [3] ?_)))
    obtain rfl := Option.some.inj H
    exact .to J
  | succ rest ih =>
    intro i z hI hd out H
    subst hI
    rw [podestaref09_Encode_l0s] at H
    have hlt_i : i < 12 := by omega
    have hc : (decide (((i : Nat) : Int) < 12)) = true := decide_eq_true (by omega)
    have hw : IntKind.i64.wrap (((i : Nat) : Int) + 1) = ((i + 1 : Nat) : Int) := wrapI_succ (by omega)
    refine .sg 3 [1,3,4,77] (.cdT hc (.sg 3 [1,3,4] (.rg (.sg 3 [1,4,80,81,82] ?_))))
    have hreq := idx_in 12 hlt_i (by decide)
    exact .xa [1,4,80,83] hreq (.sg 1 [1,4,80,84] (bndO H fun x5 hv H => (.cp [1,4,80,85] ((podestaref09_Num_walk 20) (m1.Head.getD (i) 0) 8 x5 hv) (fitH H fun hfit H => (.ap [1,4,86] (intA .u8) hfit (.sg 1 [1,3,4] (.dn (.sg 2 [1,3,4] (.tl hc0 [0,1] [1,3,4] (.into (.cl (ih (i + 1) _ hw (by omega) (out ++ x5) H))))))))))))

def podestaref09_Encode_l1 (m1 : Msg) : Nat → Int → List Int → Option ((List Int))
  | 0, _, _ => none
  | m + 1, i1, out1 =>
    (bif (decide (i1 < (((List.map Rule.av m1.Rules).length : Nat) : Int))) then
    (ixO m1.Rules i1).bind fun x6 =>
    (podestaref09_heads_raw x6.Match x6.Prio x6.Idle x6.Hard x6.Owner).bind fun x7 =>
    fitO (out1.length + x7.length) 1 (
    (podestaref09_Num_raw 20 (IntKind.u64.wrap x6.Hits) 8).bind fun x8 =>
    fitO ((out1 ++ x7).length + x8.length) 1 (
    (podestaref09_Num_raw 20 (IntKind.u64.wrap x6.Quiet) 8).bind fun x9 =>
    fitO (((out1 ++ x7) ++ x8).length + x9.length) 1 (
    (podestaref09_Num_raw 20 (IntKind.u64.wrap x6.Age) 8).bind fun x10 =>
    fitO ((((out1 ++ x7) ++ x8) ++ x9).length + x10.length) 1 (
    (podestaref09_acts_raw x6.Acts).bind fun x11 =>
    fitO (((((out1 ++ x7) ++ x8) ++ x9) ++ x10).length + x11.length) 1 (
    podestaref09_Encode_l1 m1 m (IntKind.i64.wrap (i1 + 1)) (((((out1 ++ x7) ++ x8) ++ x9) ++ x10) ++ x11))))))
  else
    some out1)
theorem podestaref09_Encode_l1_walk (q1 : Nat) (m1 : Msg) (x : (List Int)) (x5 : (List Int))  (r : (List Int)) (c0 : Ctx) (hc0 : c0.m.length = 0) (res : (List Int)) (J : AX Try.prog tab podestaref09_Encode_F c0 (Rp tab.S c0 (.own 0 1000000) [.row 5 (List.map (intA .u8) r) 1000000 true]) (some ⟨[.blk 0, .code [1, 1, 1]], [(3, .own 0 1000000)], [.row 5 (List.map (intA .u8) res) 1000000 true]⟩)) :
    ∀ (m : Nat) (i1 : Int) (out1 : List Int) (H : podestaref09_Encode_l1 m1 m i1 out1 = some res), AX Try.prog tab podestaref09_Encode_F c0 (Rp tab.S c0 (.own 0 1000000) [.row 5 (List.map (intA .u8) r) 1000000 true]) (some ⟨[.code [1, 1, 0, 1, 0, 1, 1, 1, 1, 1, 1, 1, 0, 1, 1, 0, 0], .loop [1, 1, 0, 1, 0, 1, 1, 1, 1, 1, 1, 1, 0, 1, 1, 0], .blk 3, .blk 0, .code [1, 1, 1]], [(1, .ep [.sc (.int .i64 m1.Kind), .sc (.int .i64 m1.Txn), .sc (.int .i64 m1.E), .sc (.int .i64 m1.Mod.Kind), .arr .u64 12 m1.Mod.Match.Value, .arr .u64 12 m1.Mod.Match.Care, .sc (.int .i64 m1.Mod.Prio), .sl 87 (List.map Act.av m1.Mod.Acts) false, .sc (.int .i64 m1.Mod.Idle), .sc (.int .i64 m1.Mod.Hard), .sc (.int .i64 m1.Mod.Owner), .sc (.bool m1.Mod.Check), .sc (.int .i64 m1.Port), .arr .u64 12 m1.Head, .sl 68 (List.map Rule.av m1.Rules) false] 0 none), (3, .own 0 1000000), (5, .sc (.int .i64 i1))], [.row 5 (List.map (intA .u8) out1) 1000000 true]⟩) := by
  intro m
  induction m with
  | zero => intro i1 out1 H; cases H
  | succ m ih =>
    intro i1 out1 H
    rw [podestaref09_Encode_l1] at H
    refine .sg 3 [1,3,5,101] (.cd (decide (i1 < (((List.map Rule.av m1.Rules).length : Nat) : Int))) H (fun hb H => ?_) (fun hb H => ?_))
    ·
      exact .sg 4 [1,3,5] (.rg (.sg 3 [1,3,5,105,106] (bndO H fun x6 hv H => (.xi [1,3,5,107] Rule.av hv (.sg 3 [1,3,5,6] (.dn (.sg 1 [1,3,5,6] (.rg (.sg 11 [1,5,6,109,111,113,115,117,119] (bndO H fun x7 hv H => (.cp [1,5,6,109,120] (podestaref09_heads_walk x6.Match x6.Prio x6.Idle x6.Hard x6.Owner x7 hv) (fitH H fun hfit H => (.ap [1,5,6,121] (intA .u8) hfit (.sg 1 [1,3,5,6] (.dn (.sg 1 [1,3,5,6] (.rg (.sg 4 [1,5,6,122,125] (bndO H fun x8 hv H => (.cp [1,5,6,122,126] ((podestaref09_Num_walk 20) (IntKind.u64.wrap x6.Hits) 8 x8 hv) (fitH H fun hfit H => (.ap [1,5,6,127] (intA .u8) hfit (.sg 1 [1,3,5,6] (.dn (.sg 1 [1,3,5,6] (.rg (.sg 4 [1,5,6,128,131] (bndO H fun x9 hv H => (.cp [1,5,6,128,132] ((podestaref09_Num_walk 20) (IntKind.u64.wrap x6.Quiet) 8 x9 hv) (fitH H fun hfit H => (.ap [1,5,6,133] (intA .u8) hfit (.sg 1 [1,3,5,6] (.dn (.sg 1 [1,3,5,6] (.rg (.sg 4 [1,5,6,134,137] (bndO H fun x10 hv H => (.cp [1,5,6,134,138] ((podestaref09_Num_walk 20) (IntKind.u64.wrap x6.Age) 8 x10 hv) (fitH H fun hfit H => (.ap [1,5,6,139] (intA .u8) hfit (.sg 1 [1,3,5,6] (.dn (.rg (.sg 3 [1,5,140,142] (bndO H fun x11 hv H => (.cp [1,5,140,143] (podestaref09_acts_walk x6.Acts false x11 hv) (fitH H fun hfit H => (.ap [1,5,144] (intA .u8) hfit (.sg 1 [1,3,5] (.dn (.sg 2 [1,3,5] (.tl hc0 [0] [1,3,5] (.into (.to (ih (IntKind.i64.wrap (i1 + 1)) (((((out1 ++ x7) ++ x8) ++ x9) ++ x10) ++ x11) H)))))))))))))))))))))))))))))))))))))))))))))))))))))))
    ·
      refine .sg 1 [3] (.kp [3] ?_)
      obtain rfl := Option.some.inj H
      exact .to J
def podestaref09_Encode_raw (q1 : Nat) (m1 : Msg) : Option ((List Int)) :=
  (podestaref09_Num_raw 20 (IntKind.u64.wrap m1.Txn) 4).bind fun x =>
  fitO ([(IntKind.u8.wrap m1.Kind)].length + x.length) 1 (
  (bif (m1.Kind == 1) then
    fitO (([(IntKind.u8.wrap m1.Kind)] ++ x).length + [(IntKind.u8.wrap m1.Mod.Kind)].length) 1 (
    (podestaref09_heads_raw m1.Mod.Match m1.Mod.Prio m1.Mod.Idle m1.Mod.Hard m1.Mod.Owner).bind fun x1 =>
    fitO ((([(IntKind.u8.wrap m1.Kind)] ++ x) ++ [(IntKind.u8.wrap m1.Mod.Kind)]).length + x1.length) 1 (
    (bif m1.Mod.Check then
      fitO (((([(IntKind.u8.wrap m1.Kind)] ++ x) ++ [(IntKind.u8.wrap m1.Mod.Kind)]) ++ x1).length + ([1] : List Int).length) 1 (
      (podestaref09_acts_raw m1.Mod.Acts).bind fun x2 =>
      fitO ((((([(IntKind.u8.wrap m1.Kind)] ++ x) ++ [(IntKind.u8.wrap m1.Mod.Kind)]) ++ x1) ++ ([1] : List Int)).length + x2.length) 1 (
      some ((((([(IntKind.u8.wrap m1.Kind)] ++ x) ++ [(IntKind.u8.wrap m1.Mod.Kind)]) ++ x1) ++ ([1] : List Int)) ++ x2)))
    else
      fitO (((([(IntKind.u8.wrap m1.Kind)] ++ x) ++ [(IntKind.u8.wrap m1.Mod.Kind)]) ++ x1).length + ([0] : List Int).length) 1 (
      (podestaref09_acts_raw m1.Mod.Acts).bind fun x3 =>
      fitO ((((([(IntKind.u8.wrap m1.Kind)] ++ x) ++ [(IntKind.u8.wrap m1.Mod.Kind)]) ++ x1) ++ ([0] : List Int)).length + x3.length) 1 (
      some ((((([(IntKind.u8.wrap m1.Kind)] ++ x) ++ [(IntKind.u8.wrap m1.Mod.Kind)]) ++ x1) ++ ([0] : List Int)) ++ x3))))))
  else
    (bif (m1.Kind == 6) then
      fitO (([(IntKind.u8.wrap m1.Kind)] ++ x).length + [(IntKind.u8.wrap m1.E)].length) 1 (
      some (([(IntKind.u8.wrap m1.Kind)] ++ x) ++ [(IntKind.u8.wrap m1.E)]))
    else
      (bif (m1.Kind == 8) then
        fitO (([(IntKind.u8.wrap m1.Kind)] ++ x).length + [(IntKind.u8.wrap m1.Port)].length) 1 (
        (podestaref09_Encode_l0s m1 12 0 (([(IntKind.u8.wrap m1.Kind)] ++ x) ++ [(IntKind.u8.wrap m1.Port)])).bind fun v =>
        some v)
      else
        (bif (bif (m1.Kind == 9) then (m1.Kind == 9) else (m1.Kind == 10)) then
          (podestaref09_Num_raw 20 (IntKind.u64.wrap (((List.map Rule.av m1.Rules).length : Nat) : Int)) 2).bind fun x5 =>
          fitO (([(IntKind.u8.wrap m1.Kind)] ++ x).length + x5.length) 1 (
          (podestaref09_Encode_l1 m1 q1 0 (([(IntKind.u8.wrap m1.Kind)] ++ x) ++ x5)).bind fun v1 =>
          some v1)
        else
          some ([(IntKind.u8.wrap m1.Kind)] ++ x))))))
theorem podestaref09_Encode_walk (q1 : Nat) (m1 : Msg) (r : (List Int)) (H : podestaref09_Encode_raw q1 m1 = some r) : ACalls Try.prog tab.S 17 [Msg.av m1] [] (.own 0 1000000) [.row 5 (List.map (intA .u8) r) 1000000 true] := by
  refine .of_AX podestaref09_Encode_F Try.func17 fun c0 hc0 => ?_
  rw [podestaref09_Encode_raw] at H
  refine .sg 1 [0] (.rg (.bx [1] (.sg 1 [1] (.dn (.sg 1 [1] (.rg (.sg 3 [1,9] (.bs [1,10] (List.map (intA .u8) [(IntKind.u8.wrap m1.Kind)]) (.sg 3 [1,10,13] (bndO H fun x hv H => (.cp [1,10,14] ((podestaref09_Num_walk 20) (IntKind.u64.wrap m1.Txn) 4 x hv) (fitH H fun hfit H => (.ap [1,15] (intA .u8) hfit (.sg 1 [1,3] (.dn (.sg 6 [1,3,17,18] (.cd (m1.Kind == 1) H (fun hb H => ?_) (fun hb H => ?_))))))))))))))))))
  ·
    refine .sg 1 [1,3] (.rg (.sg 5 [1,20,24] (.bs [1,20,25] (List.map (intA .u8) [(IntKind.u8.wrap m1.Mod.Kind)]) (fitH H fun hfit H => (.ap [1,26] (intA .u8) hfit (.sg 1 [1,3] (.dn (.sg 1 [1,3] (.rg (.sg 16 [1,27,30,33,36,39,42] (bndO H fun x1 hv H => (.cp [1,27,43] (podestaref09_heads_walk m1.Mod.Match m1.Mod.Prio m1.Mod.Idle m1.Mod.Hard m1.Mod.Owner x1 hv) (fitH H fun hfit H => (.ap [1,44] (intA .u8) hfit (.sg 1 [1,3] (.dn (.sg 3 [1,3,47] (.cd m1.Mod.Check H (fun hb H => ?_) (fun hb H => ?_)))))))))))))))))))
    ·
      refine .rg (.sg 1 [1,48] (.bs [1,48,49] (List.map (intA .u8) ([1] : List Int)) (fitH H fun hfit H => (.ap [1,50] (intA .u8) hfit (.sg 1 [1,3] (.dn (.rg (.sg 4 [54,57] (bndO H fun x2 hv H => (.cp [54,58] (podestaref09_acts_walk m1.Mod.Acts false x2 hv) (fitH H fun hfit H => (.ap [59] (intA .u8) hfit (.sg 1 [3] (.dn (.sg 3 [2] ?_)))))))))))))))
      obtain rfl := Option.some.inj H
      exact .ret Try.func17 hc0 [0]
    ·
      refine .rg (.sg 1 [1,51] (.bs [1,51,52] (List.map (intA .u8) ([0] : List Int)) (fitH H fun hfit H => (.ap [1,53] (intA .u8) hfit (.sg 1 [1,3] (.dn (.rg (.sg 4 [54,57] (bndO H fun x3 hv H => (.cp [54,58] (podestaref09_acts_walk m1.Mod.Acts false x3 hv) (fitH H fun hfit H => (.ap [59] (intA .u8) hfit (.sg 1 [3] (.dn (.sg 3 [2] ?_)))))))))))))))
      obtain rfl := Option.some.inj H
      exact .ret Try.func17 hc0 [0]
  ·
    refine .sg 2 [1,3,17,60] (.cd (m1.Kind == 6) H (fun hb H => ?_) (fun hb H => ?_))
    ·
      refine .rg (.sg 4 [62,65] (.bs [62,66] (List.map (intA .u8) [(IntKind.u8.wrap m1.E)]) (fitH H fun hfit H => (.ap [67] (intA .u8) hfit (.sg 1 [3] (.dn (.sg 3 [2] ?_)))))))
      obtain rfl := Option.some.inj H
      exact .ret Try.func17 hc0 [0]
    ·
      refine .sg 2 [1,3,17,68] (.cd (m1.Kind == 8) H (fun hb H => ?_) (fun hb H => ?_))
      ·
        refine .sg 1 [1,3] (.rg (.sg 4 [1,70,73] (.bs [1,70,74] (List.map (intA .u8) [(IntKind.u8.wrap m1.Port)]) (fitH H fun hfit H => (.ap [1,75] (intA .u8) hfit (.sg 1 [1,3] (.dn (.sg 3 [1,3,4] (.tl hc0 [0,1] [1,3,4] ?_)))))))))
        refine bndO H fun v hv H => (.into (.to (podestaref09_Encode_l0_walk q1 m1 x r c0 hc0 v ?_ 12 0 _ rfl rfl (([(IntKind.u8.wrap m1.Kind)] ++ x) ++ [(IntKind.u8.wrap m1.Port)]) hv)))
        refine .sg 3 [2] ?_
        obtain rfl := Option.some.inj H
        exact .ret Try.func17 hc0 [0]
      ·
        refine .sg 3 [1,3,17,87] (.jn (m1.Kind == 9) [1, 3, 87] (fun z => [(87, .sc (.bool (bif z then (m1.Kind == 9) else (m1.Kind == 10))))]) ?J1 (fun hb J => ?ht1) (fun hb J => ?hf1))
        case ht1 =>
          exact .sg 1 [1,3,87] (.cl J)
        case hf1 =>
          exact .sg 1 [1,3,87] (.cl J)
        refine .cd (bif (m1.Kind == 9) then (m1.Kind == 9) else (m1.Kind == 10)) H (fun hb H => ?_) (fun hb H => ?_)
        ·
          refine .sg 1 [1,3] (.rg (.sg 5 [1,90,94] (bndO H fun x5 hv H => (.cp [1,90,95] ((podestaref09_Num_walk 20) (IntKind.u64.wrap (((List.map Rule.av m1.Rules).length : Nat) : Int)) 2 x5 hv) (fitH H fun hfit H => (.ap [1,96] (intA .u8) hfit (.sg 1 [1,3] (.dn (.sg 3 [1,3,5] (.tl hc0 [0] [1,3,5] ?_))))))))))
          refine bndO H fun v1 hv H => (.into (.to (podestaref09_Encode_l1_walk q1 m1 x x5 r c0 hc0 v1 ?_ q1 0 (([(IntKind.u8.wrap m1.Kind)] ++ x) ++ x5) hv)))
          refine .sg 3 [2] ?_
          obtain rfl := Option.some.inj H
          exact .ret Try.func17 hc0 [0]
        ·
          refine .sg 4 [2] ?_
          obtain rfl := Option.some.inj H
          exact .ret Try.func17 hc0 [0]

/-! ### podestaref09.Decode: function 11 -/
noncomputable def podestaref09_Decode_F : Go.Sh.Fn := ⟨11, bodyOf Try.f11, 173⟩
def podestaref09_Decode_l0 (n : Int) (m_0 : Int) (m_1 : Int) : Nat → Int → List Int → Int → Bool → List Rule → Option ((List Int) × Int × Bool × Int × Int × (List Rule))
  | 0, _, _, _, _, _ => none
  | m + 1, i, x_0, x_1, x_2, o4 =>
    (bif ((decide (i < n)) && (!x_2)) then
    (podestaref09_Eye_head_raw ({ B := x_0, At := x_1, Short := x_2 } : Eye)).bind fun v15 =>
    (podestaref09_Eye_head_raw v15.2).bind fun v16 =>
    (podestaref09_Eye_Get_raw 20 v16.2 2).bind fun v17 =>
    (podestaref09_Eye_Get_raw 20 v17.2 4).bind fun v18 =>
    (podestaref09_Eye_Get_raw 20 v18.2 4).bind fun v19 =>
    (podestaref09_Eye_Get_raw 20 v19.2 1).bind fun v20 =>
    (podestaref09_Eye_Get_raw 20 v20.2 8).bind fun v21 =>
    (podestaref09_Eye_Get_raw 20 v21.2 8).bind fun v22 =>
    (podestaref09_Eye_Get_raw 20 v22.2 8).bind fun v23 =>
    (podestaref09_Eye_acts_raw 300 v23.2).bind fun v24 =>
    fitO (o4.length + [({ Match := ({ Value := v15.1, Care := v16.1 } : Cube), Prio := (IntKind.i64.wrap v17.1), Acts := v24.1, Idle := (IntKind.i64.wrap v18.1), Hard := (IntKind.i64.wrap v19.1), Owner := (IntKind.i64.wrap v20.1), Hits := (IntKind.i64.wrap v21.1), Quiet := (IntKind.i64.wrap v22.1), Age := (IntKind.i64.wrap v23.1) } : Rule)].length) 272 (
    podestaref09_Decode_l0 n m_0 m_1 m (IntKind.i64.wrap (i + 1)) v24.2.B v24.2.At v24.2.Short (o4 ++ [({ Match := ({ Value := v15.1, Care := v16.1 } : Cube), Prio := (IntKind.i64.wrap v17.1), Acts := v24.1, Idle := (IntKind.i64.wrap v18.1), Hard := (IntKind.i64.wrap v19.1), Owner := (IntKind.i64.wrap v20.1), Hits := (IntKind.i64.wrap v21.1), Quiet := (IntKind.i64.wrap v22.1), Age := (IntKind.i64.wrap v23.1) } : Rule)]))
  else
    some (x_0, x_1, x_2, m_0, m_1, o4))
theorem podestaref09_Decode_l0_walk (q0 : Nat) (b : List Int) (v : Int × Eye) (v1 : Int × Eye) (v14 : Int × Eye) (n : Int) (m_0 : Int) (m_1 : Int) (f_b : Bool) (r : Msg × Int) (c0 : Ctx) (hc0 : c0.m.length = 0) (res : (List Int) × Int × Bool × Int × Int × (List Rule)) (J : AX Try.prog tab podestaref09_Decode_F c0 (Rp tab.S c0 (.tup [Msg.av r.1, .sc (.int .i64 r.2)]) []) (some ⟨[.blk 0, .code [1, 1, 1, 1, 1, 1, 1]], [(0, .sl 5 (List.map (intA .u8) b) f_b), (2, .ptr 0 0 none), (4, .ptr 2 0 none), (5, .ptr 3 0 none), (6, .sc (.bool false))], [.box 35 [.sc (.int .i64 0), .sc (.int .i64 0), .sc (.int .i64 0), .sc (.int .i64 0), .arr .u64 12 [0, 0, 0, 0, 0, 0, 0, 0, 0, 0, 0, 0], .arr .u64 12 [0, 0, 0, 0, 0, 0, 0, 0, 0, 0, 0, 0], .sc (.int .i64 0), .sl 0 [] true, .sc (.int .i64 0), .sc (.int .i64 0), .sc (.int .i64 0), .sc (.bool false), .sc (.int .i64 0), .arr .u64 12 [0, 0, 0, 0, 0, 0, 0, 0, 0, 0, 0, 0], .own 1 1000000], .row 68 (List.map Rule.av ([] : List Rule)) 1000000 true, .box 64 [.sl 5 (List.map (intA .u8) res.1) false, .sc (.int .i64 res.2.1), .sc (.bool res.2.2.1)], .box 35 [.sc (.int .i64 res.2.2.2.1), .sc (.int .i64 res.2.2.2.2.1), .sc (.int .i64 0), .sc (.int .i64 0), .arr .u64 12 [0, 0, 0, 0, 0, 0, 0, 0, 0, 0, 0, 0], .arr .u64 12 [0, 0, 0, 0, 0, 0, 0, 0, 0, 0, 0, 0], .sc (.int .i64 0), .sl 0 [] true, .sc (.int .i64 0), .sc (.int .i64 0), .sc (.int .i64 0), .sc (.bool false), .sc (.int .i64 0), .arr .u64 12 [0, 0, 0, 0, 0, 0, 0, 0, 0, 0, 0, 0], .own 4 1000000], .row 68 (List.map Rule.av res.2.2.2.2.2) 1000000 true]⟩)) :
    ∀ (m : Nat) (i : Int) (x_0 : List Int) (x_1 : Int) (x_2 : Bool) (o4 : List Rule) (H : podestaref09_Decode_l0 n m_0 m_1 m i x_0 x_1 x_2 o4 = some res), AX Try.prog tab podestaref09_Decode_F c0 (Rp tab.S c0 (.tup [Msg.av r.1, .sc (.int .i64 r.2)]) []) (some ⟨[.code [1, 1, 1, 1, 1, 1, 0, 1, 0, 1, 1, 1, 1, 1, 1, 1, 0, 1, 1, 0, 0], .loop [1, 1, 1, 1, 1, 1, 0, 1, 0, 1, 1, 1, 1, 1, 1, 1, 0, 1, 1, 0], .blk 1, .blk 0, .code [1, 1, 1, 1, 1, 1, 1]], [(0, .sl 5 (List.map (intA .u8) b) f_b), (2, .ptr 0 0 none), (4, .ptr 2 0 none), (5, .ptr 3 0 none), (6, .sc (.bool false)), (8, .sc (.int .i64 n)), (9, .sc (.int .i64 i))], [.box 35 [.sc (.int .i64 0), .sc (.int .i64 0), .sc (.int .i64 0), .sc (.int .i64 0), .arr .u64 12 [0, 0, 0, 0, 0, 0, 0, 0, 0, 0, 0, 0], .arr .u64 12 [0, 0, 0, 0, 0, 0, 0, 0, 0, 0, 0, 0], .sc (.int .i64 0), .sl 0 [] true, .sc (.int .i64 0), .sc (.int .i64 0), .sc (.int .i64 0), .sc (.bool false), .sc (.int .i64 0), .arr .u64 12 [0, 0, 0, 0, 0, 0, 0, 0, 0, 0, 0, 0], .own 1 1000000], .row 68 (List.map Rule.av ([] : List Rule)) 1000000 true, .box 64 [.sl 5 (List.map (intA .u8) x_0) false, .sc (.int .i64 x_1), .sc (.bool x_2)], .box 35 [.sc (.int .i64 m_0), .sc (.int .i64 m_1), .sc (.int .i64 0), .sc (.int .i64 0), .arr .u64 12 [0, 0, 0, 0, 0, 0, 0, 0, 0, 0, 0, 0], .arr .u64 12 [0, 0, 0, 0, 0, 0, 0, 0, 0, 0, 0, 0], .sc (.int .i64 0), .sl 0 [] true, .sc (.int .i64 0), .sc (.int .i64 0), .sc (.int .i64 0), .sc (.bool false), .sc (.int .i64 0), .arr .u64 12 [0, 0, 0, 0, 0, 0, 0, 0, 0, 0, 0, 0], .own 4 1000000], .row 68 (List.map Rule.av o4) 1000000 true]⟩) := by
  intro m
  induction m with
  | zero => intro i x_0 x_1 x_2 o4 H; cases H
  | succ m ih =>
    intro i x_0 x_1 x_2 o4 H
    rw [podestaref09_Decode_l0] at H
    refine .sg 2 [0,2,4,5,6,8,9] (.rg (.sg 4 [0,2,4,5,6,8,9,97] (.mx 0 [0,2,4,5,6,8,9,103] (.dn (.cd ((decide (i < n)) && (!x_2)) H (fun hb H => ?_) (fun hb H => ?_))))))
    ·
      exact .sg 6 [0,2,4,5,6,8,9,10] (.rg (.sg 1 [0,2,4,5,6,8,9,10,106] (bndO H fun v15 hv H => (.ch [0,2,4,5,6,8,9,10,107] [2] (podestaref09_Eye_head_walk ({ B := x_0, At := x_1, Short := x_2 } : Eye) v15 hv) (.sg 3 [0,2,4,5,6,8,9,10] (.dn (.sg 1 [0,2,4,5,6,8,9,10] (.rg (.sg 1 [0,2,4,5,6,8,9,10,110] (bndO H fun v16 hv H => (.ch [0,2,4,5,6,8,9,10,111] [2] (podestaref09_Eye_head_walk v15.2 v16 hv) (.sg 3 [0,2,4,5,6,8,9,10] (.dn (.sg 1 [0,2,4,5,6,8,9,10] (.rg (.sg 1 [0,2,4,5,6,8,9,10,114] (bndO H fun v17 hv H => (.ch [0,2,4,5,6,8,9,10,115] [2] ((podestaref09_Eye_Get_walk 20) v16.2 2 v17 hv) (.sg 3 [0,2,4,5,6,8,9,10] (.dn (.sg 1 [0,2,4,5,6,8,9,10] (.rg (.sg 1 [0,2,4,5,6,8,9,10,118] (bndO H fun v18 hv H => (.ch [0,2,4,5,6,8,9,10,119] [2] ((podestaref09_Eye_Get_walk 20) v17.2 4 v18 hv) (.sg 3 [0,2,4,5,6,8,9,10] (.dn (.sg 1 [0,2,4,5,6,8,9,10] (.rg (.sg 1 [0,2,4,5,6,8,9,10,122] (bndO H fun v19 hv H => (.ch [0,2,4,5,6,8,9,10,123] [2] ((podestaref09_Eye_Get_walk 20) v18.2 4 v19 hv) (.sg 3 [0,2,4,5,6,8,9,10] (.dn (.sg 1 [0,2,4,5,6,8,9,10] (.rg (.sg 1 [0,2,4,5,6,8,9,10,126] (bndO H fun v20 hv H => (.ch [0,2,4,5,6,8,9,10,127] [2] ((podestaref09_Eye_Get_walk 20) v19.2 1 v20 hv) (.sg 3 [0,2,4,5,6,8,9,10] (.dn (.sg 1 [0,2,4,5,6,8,9,10] (.rg (.sg 1 [0,2,4,5,6,8,9,10,130] (bndO H fun v21 hv H => (.ch [0,2,4,5,6,8,9,10,131] [2] ((podestaref09_Eye_Get_walk 20) v20.2 8 v21 hv) (.sg 3 [0,2,4,5,6,8,9,10] (.dn (.sg 1 [0,2,4,5,6,8,9,10] (.rg (.sg 1 [0,2,4,5,6,8,9,10,134] (bndO H fun v22 hv H => (.ch [0,2,4,5,6,8,9,10,135] [2] ((podestaref09_Eye_Get_walk 20) v21.2 8 v22 hv) (.sg 3 [0,2,4,5,6,8,9,10] (.dn (.sg 1 [0,2,4,5,6,8,9,10] (.rg (.sg 1 [0,2,4,5,6,8,9,10,138] (bndO H fun v23 hv H => (.ch [0,2,4,5,6,8,9,10,139] [2] ((podestaref09_Eye_Get_walk 20) v22.2 8 v23 hv) (.sg 3 [0,2,4,5,6,8,9,10] (.dn (.sg 1 [0,2,4,5,6,8,9,10] (.rg (.sg 1 [0,2,4,5,6,8,9,10,142] (bndO H fun v24 hv H => (.ch [0,2,4,5,6,8,9,10,143] [2] ((podestaref09_Eye_acts_walk 300) v23.2 v24 hv) (.sg 2 [0,2,4,5,6,8,9,10] (.dn (.rg (.sg 4 [0,2,4,5,6,8,9,146,148] (fitH H fun hfit H => (.ap [0,2,4,5,6,8,9,149] Rule.av hfit (.sg 2 [0,2,4,5,6,8,9] (.dn (.sg 2 [0,2,4,5,6,8,9] (.tl hc0 [0,1,2,3,4] [0,2,4,5,6,8,9] (.into (.to (ih (IntKind.i64.wrap (i + 1)) v24.2.B v24.2.At v24.2.Short (o4 ++ [({ Match := ({ Value := v15.1, Care := v16.1 } : Cube), Prio := (IntKind.i64.wrap v17.1), Acts := v24.1, Idle := (IntKind.i64.wrap v18.1), Hard := (IntKind.i64.wrap v19.1), Owner := (IntKind.i64.wrap v20.1), Hits := (IntKind.i64.wrap v21.1), Quiet := (IntKind.i64.wrap v22.1), Age := (IntKind.i64.wrap v23.1) } : Rule)]) H))))))))))))))))))))))))))))))))))))))))))))))))))))))))))))))))))))))))))))))))
    ·
      refine .sg 1 [0,2,4,5,6] (.kp [0,2,4,5,6] ?_)
      obtain rfl := Option.some.inj H
      exact .to J
def podestaref09_Decode_raw (q0 : Nat) (b : List Int) : Option (Msg × Int) :=
  (podestaref09_Eye_Get_raw 20 ({ B := b, At := 0, Short := false } : Eye) 1).bind fun v =>
  (podestaref09_Eye_Get_raw 20 v.2 4).bind fun v1 =>
  (bif ((IntKind.i64.wrap v.1) == 1) then
    (podestaref09_Eye_Get_raw 20 v1.2 1).bind fun v2 =>
    (podestaref09_Eye_head_raw v2.2).bind fun v3 =>
    (podestaref09_Eye_head_raw v3.2).bind fun v4 =>
    (podestaref09_Eye_Get_raw 20 v4.2 2).bind fun v5 =>
    (podestaref09_Eye_Get_raw 20 v5.2 4).bind fun v6 =>
    (podestaref09_Eye_Get_raw 20 v6.2 4).bind fun v7 =>
    (podestaref09_Eye_Get_raw 20 v7.2 1).bind fun v8 =>
    (podestaref09_Eye_Get_raw 20 v8.2 1).bind fun v9 =>
    (podestaref09_Eye_acts_raw 300 v9.2).bind fun v10 =>
    (bif v10.2.Short then
      some (({ Kind := 0, Txn := 0, E := 0, Mod := ({ Kind := 0, Match := ({ Value := [0, 0, 0, 0, 0, 0, 0, 0, 0, 0, 0, 0], Care := [0, 0, 0, 0, 0, 0, 0, 0, 0, 0, 0, 0] } : Cube), Prio := 0, Acts := [], Idle := 0, Hard := 0, Owner := 0, Check := false } : Mod), Port := 0, Head := [0, 0, 0, 0, 0, 0, 0, 0, 0, 0, 0, 0], Rules := [] } : Msg), 8)
    else
      (bif ((decide (v9.1 > 1)) || (v10.2.At != (((List.map (intA .u8) b).length : Nat) : Int))) then
        some (({ Kind := 0, Txn := 0, E := 0, Mod := ({ Kind := 0, Match := ({ Value := [0, 0, 0, 0, 0, 0, 0, 0, 0, 0, 0, 0], Care := [0, 0, 0, 0, 0, 0, 0, 0, 0, 0, 0, 0] } : Cube), Prio := 0, Acts := [], Idle := 0, Hard := 0, Owner := 0, Check := false } : Mod), Port := 0, Head := [0, 0, 0, 0, 0, 0, 0, 0, 0, 0, 0, 0], Rules := [] } : Msg), 2)
      else
        (podestaref09_Msg_raw ({ Kind := (IntKind.i64.wrap v.1), Txn := (IntKind.i64.wrap v1.1), E := 0, Mod := ({ Kind := (IntKind.i64.wrap v2.1), Match := ({ Value := v3.1, Care := v4.1 } : Cube), Prio := (IntKind.i64.wrap v5.1), Acts := v10.1, Idle := (IntKind.i64.wrap v6.1), Hard := (IntKind.i64.wrap v7.1), Owner := (IntKind.i64.wrap v8.1), Check := (v9.1 == 1) } : Mod), Port := 0, Head := [0, 0, 0, 0, 0, 0, 0, 0, 0, 0, 0, 0], Rules := ([] : List Rule) } : Msg)).bind fun x =>
        (bif (!x) then
          some (({ Kind := 0, Txn := 0, E := 0, Mod := ({ Kind := 0, Match := ({ Value := [0, 0, 0, 0, 0, 0, 0, 0, 0, 0, 0, 0], Care := [0, 0, 0, 0, 0, 0, 0, 0, 0, 0, 0, 0] } : Cube), Prio := 0, Acts := [], Idle := 0, Hard := 0, Owner := 0, Check := false } : Mod), Port := 0, Head := [0, 0, 0, 0, 0, 0, 0, 0, 0, 0, 0, 0], Rules := [] } : Msg), 2)
        else
          some (({ Kind := (IntKind.i64.wrap v.1), Txn := (IntKind.i64.wrap v1.1), E := 0, Mod := ({ Kind := (IntKind.i64.wrap v2.1), Match := ({ Value := v3.1, Care := v4.1 } : Cube), Prio := (IntKind.i64.wrap v5.1), Acts := v10.1, Idle := (IntKind.i64.wrap v6.1), Hard := (IntKind.i64.wrap v7.1), Owner := (IntKind.i64.wrap v8.1), Check := (v9.1 == 1) } : Mod), Port := 0, Head := [0, 0, 0, 0, 0, 0, 0, 0, 0, 0, 0, 0], Rules := ([] : List Rule) } : Msg), 0))))
  else
    (bif ((IntKind.i64.wrap v.1) == 6) then
      (podestaref09_Eye_Get_raw 20 v1.2 1).bind fun v11 =>
      (bif v11.2.Short then
        some (({ Kind := 0, Txn := 0, E := 0, Mod := ({ Kind := 0, Match := ({ Value := [0, 0, 0, 0, 0, 0, 0, 0, 0, 0, 0, 0], Care := [0, 0, 0, 0, 0, 0, 0, 0, 0, 0, 0, 0] } : Cube), Prio := 0, Acts := [], Idle := 0, Hard := 0, Owner := 0, Check := false } : Mod), Port := 0, Head := [0, 0, 0, 0, 0, 0, 0, 0, 0, 0, 0, 0], Rules := [] } : Msg), 8)
      else
        (bif (v11.2.At != (((List.map (intA .u8) b).length : Nat) : Int)) then
          some (({ Kind := 0, Txn := 0, E := 0, Mod := ({ Kind := 0, Match := ({ Value := [0, 0, 0, 0, 0, 0, 0, 0, 0, 0, 0, 0], Care := [0, 0, 0, 0, 0, 0, 0, 0, 0, 0, 0, 0] } : Cube), Prio := 0, Acts := [], Idle := 0, Hard := 0, Owner := 0, Check := false } : Mod), Port := 0, Head := [0, 0, 0, 0, 0, 0, 0, 0, 0, 0, 0, 0], Rules := [] } : Msg), 2)
        else
          (podestaref09_Msg_raw ({ Kind := (IntKind.i64.wrap v.1), Txn := (IntKind.i64.wrap v1.1), E := (IntKind.i64.wrap v11.1), Mod := ({ Kind := 0, Match := ({ Value := [0, 0, 0, 0, 0, 0, 0, 0, 0, 0, 0, 0], Care := [0, 0, 0, 0, 0, 0, 0, 0, 0, 0, 0, 0] } : Cube), Prio := 0, Acts := [], Idle := 0, Hard := 0, Owner := 0, Check := false } : Mod), Port := 0, Head := [0, 0, 0, 0, 0, 0, 0, 0, 0, 0, 0, 0], Rules := ([] : List Rule) } : Msg)).bind fun x1 =>
          (bif (!x1) then
            some (({ Kind := 0, Txn := 0, E := 0, Mod := ({ Kind := 0, Match := ({ Value := [0, 0, 0, 0, 0, 0, 0, 0, 0, 0, 0, 0], Care := [0, 0, 0, 0, 0, 0, 0, 0, 0, 0, 0, 0] } : Cube), Prio := 0, Acts := [], Idle := 0, Hard := 0, Owner := 0, Check := false } : Mod), Port := 0, Head := [0, 0, 0, 0, 0, 0, 0, 0, 0, 0, 0, 0], Rules := [] } : Msg), 2)
          else
            some (({ Kind := (IntKind.i64.wrap v.1), Txn := (IntKind.i64.wrap v1.1), E := (IntKind.i64.wrap v11.1), Mod := ({ Kind := 0, Match := ({ Value := [0, 0, 0, 0, 0, 0, 0, 0, 0, 0, 0, 0], Care := [0, 0, 0, 0, 0, 0, 0, 0, 0, 0, 0, 0] } : Cube), Prio := 0, Acts := [], Idle := 0, Hard := 0, Owner := 0, Check := false } : Mod), Port := 0, Head := [0, 0, 0, 0, 0, 0, 0, 0, 0, 0, 0, 0], Rules := ([] : List Rule) } : Msg), 0))))
    else
      (bif ((IntKind.i64.wrap v.1) == 8) then
        (podestaref09_Eye_Get_raw 20 v1.2 1).bind fun v12 =>
        (podestaref09_Eye_head_raw v12.2).bind fun v13 =>
        (bif v13.2.Short then
          some (({ Kind := 0, Txn := 0, E := 0, Mod := ({ Kind := 0, Match := ({ Value := [0, 0, 0, 0, 0, 0, 0, 0, 0, 0, 0, 0], Care := [0, 0, 0, 0, 0, 0, 0, 0, 0, 0, 0, 0] } : Cube), Prio := 0, Acts := [], Idle := 0, Hard := 0, Owner := 0, Check := false } : Mod), Port := 0, Head := [0, 0, 0, 0, 0, 0, 0, 0, 0, 0, 0, 0], Rules := [] } : Msg), 8)
        else
          (bif (v13.2.At != (((List.map (intA .u8) b).length : Nat) : Int)) then
            some (({ Kind := 0, Txn := 0, E := 0, Mod := ({ Kind := 0, Match := ({ Value := [0, 0, 0, 0, 0, 0, 0, 0, 0, 0, 0, 0], Care := [0, 0, 0, 0, 0, 0, 0, 0, 0, 0, 0, 0] } : Cube), Prio := 0, Acts := [], Idle := 0, Hard := 0, Owner := 0, Check := false } : Mod), Port := 0, Head := [0, 0, 0, 0, 0, 0, 0, 0, 0, 0, 0, 0], Rules := [] } : Msg), 2)
          else
            (podestaref09_Msg_raw ({ Kind := (IntKind.i64.wrap v.1), Txn := (IntKind.i64.wrap v1.1), E := 0, Mod := ({ Kind := 0, Match := ({ Value := [0, 0, 0, 0, 0, 0, 0, 0, 0, 0, 0, 0], Care := [0, 0, 0, 0, 0, 0, 0, 0, 0, 0, 0, 0] } : Cube), Prio := 0, Acts := [], Idle := 0, Hard := 0, Owner := 0, Check := false } : Mod), Port := (IntKind.i64.wrap v12.1), Head := v13.1, Rules := ([] : List Rule) } : Msg)).bind fun x2 =>
            (bif (!x2) then
              some (({ Kind := 0, Txn := 0, E := 0, Mod := ({ Kind := 0, Match := ({ Value := [0, 0, 0, 0, 0, 0, 0, 0, 0, 0, 0, 0], Care := [0, 0, 0, 0, 0, 0, 0, 0, 0, 0, 0, 0] } : Cube), Prio := 0, Acts := [], Idle := 0, Hard := 0, Owner := 0, Check := false } : Mod), Port := 0, Head := [0, 0, 0, 0, 0, 0, 0, 0, 0, 0, 0, 0], Rules := [] } : Msg), 2)
            else
              some (({ Kind := (IntKind.i64.wrap v.1), Txn := (IntKind.i64.wrap v1.1), E := 0, Mod := ({ Kind := 0, Match := ({ Value := [0, 0, 0, 0, 0, 0, 0, 0, 0, 0, 0, 0], Care := [0, 0, 0, 0, 0, 0, 0, 0, 0, 0, 0, 0] } : Cube), Prio := 0, Acts := [], Idle := 0, Hard := 0, Owner := 0, Check := false } : Mod), Port := (IntKind.i64.wrap v12.1), Head := v13.1, Rules := ([] : List Rule) } : Msg), 0))))
      else
        (bif (bif ((IntKind.i64.wrap v.1) == 9) then ((IntKind.i64.wrap v.1) == 9) else ((IntKind.i64.wrap v.1) == 10)) then
          (podestaref09_Eye_Get_raw 20 v1.2 2).bind fun v14 =>
          (podestaref09_Decode_l0 (IntKind.i64.wrap v14.1) (IntKind.i64.wrap v.1) (IntKind.i64.wrap v1.1) q0 0 v14.2.B v14.2.At v14.2.Short ([] : List Rule)).bind fun v15 =>
          (bif v15.2.2.1 then
            some (({ Kind := 0, Txn := 0, E := 0, Mod := ({ Kind := 0, Match := ({ Value := [0, 0, 0, 0, 0, 0, 0, 0, 0, 0, 0, 0], Care := [0, 0, 0, 0, 0, 0, 0, 0, 0, 0, 0, 0] } : Cube), Prio := 0, Acts := [], Idle := 0, Hard := 0, Owner := 0, Check := false } : Mod), Port := 0, Head := [0, 0, 0, 0, 0, 0, 0, 0, 0, 0, 0, 0], Rules := [] } : Msg), 8)
          else
            (bif (v15.2.1 != (((List.map (intA .u8) b).length : Nat) : Int)) then
              some (({ Kind := 0, Txn := 0, E := 0, Mod := ({ Kind := 0, Match := ({ Value := [0, 0, 0, 0, 0, 0, 0, 0, 0, 0, 0, 0], Care := [0, 0, 0, 0, 0, 0, 0, 0, 0, 0, 0, 0] } : Cube), Prio := 0, Acts := [], Idle := 0, Hard := 0, Owner := 0, Check := false } : Mod), Port := 0, Head := [0, 0, 0, 0, 0, 0, 0, 0, 0, 0, 0, 0], Rules := [] } : Msg), 2)
            else
              (podestaref09_Msg_raw ({ Kind := v15.2.2.2.1, Txn := v15.2.2.2.2.1, E := 0, Mod := ({ Kind := 0, Match := ({ Value := [0, 0, 0, 0, 0, 0, 0, 0, 0, 0, 0, 0], Care := [0, 0, 0, 0, 0, 0, 0, 0, 0, 0, 0, 0] } : Cube), Prio := 0, Acts := [], Idle := 0, Hard := 0, Owner := 0, Check := false } : Mod), Port := 0, Head := [0, 0, 0, 0, 0, 0, 0, 0, 0, 0, 0, 0], Rules := v15.2.2.2.2.2 } : Msg)).bind fun x3 =>
              (bif (!x3) then
                some (({ Kind := 0, Txn := 0, E := 0, Mod := ({ Kind := 0, Match := ({ Value := [0, 0, 0, 0, 0, 0, 0, 0, 0, 0, 0, 0], Care := [0, 0, 0, 0, 0, 0, 0, 0, 0, 0, 0, 0] } : Cube), Prio := 0, Acts := [], Idle := 0, Hard := 0, Owner := 0, Check := false } : Mod), Port := 0, Head := [0, 0, 0, 0, 0, 0, 0, 0, 0, 0, 0, 0], Rules := [] } : Msg), 2)
              else
                some (({ Kind := v15.2.2.2.1, Txn := v15.2.2.2.2.1, E := 0, Mod := ({ Kind := 0, Match := ({ Value := [0, 0, 0, 0, 0, 0, 0, 0, 0, 0, 0, 0], Care := [0, 0, 0, 0, 0, 0, 0, 0, 0, 0, 0, 0] } : Cube), Prio := 0, Acts := [], Idle := 0, Hard := 0, Owner := 0, Check := false } : Mod), Port := 0, Head := [0, 0, 0, 0, 0, 0, 0, 0, 0, 0, 0, 0], Rules := v15.2.2.2.2.2 } : Msg), 0))))
        else
          (bif v1.2.Short then
            some (({ Kind := 0, Txn := 0, E := 0, Mod := ({ Kind := 0, Match := ({ Value := [0, 0, 0, 0, 0, 0, 0, 0, 0, 0, 0, 0], Care := [0, 0, 0, 0, 0, 0, 0, 0, 0, 0, 0, 0] } : Cube), Prio := 0, Acts := [], Idle := 0, Hard := 0, Owner := 0, Check := false } : Mod), Port := 0, Head := [0, 0, 0, 0, 0, 0, 0, 0, 0, 0, 0, 0], Rules := [] } : Msg), 8)
          else
            (bif (v1.2.At != (((List.map (intA .u8) b).length : Nat) : Int)) then
              some (({ Kind := 0, Txn := 0, E := 0, Mod := ({ Kind := 0, Match := ({ Value := [0, 0, 0, 0, 0, 0, 0, 0, 0, 0, 0, 0], Care := [0, 0, 0, 0, 0, 0, 0, 0, 0, 0, 0, 0] } : Cube), Prio := 0, Acts := [], Idle := 0, Hard := 0, Owner := 0, Check := false } : Mod), Port := 0, Head := [0, 0, 0, 0, 0, 0, 0, 0, 0, 0, 0, 0], Rules := [] } : Msg), 2)
            else
              (podestaref09_Msg_raw ({ Kind := (IntKind.i64.wrap v.1), Txn := (IntKind.i64.wrap v1.1), E := 0, Mod := ({ Kind := 0, Match := ({ Value := [0, 0, 0, 0, 0, 0, 0, 0, 0, 0, 0, 0], Care := [0, 0, 0, 0, 0, 0, 0, 0, 0, 0, 0, 0] } : Cube), Prio := 0, Acts := [], Idle := 0, Hard := 0, Owner := 0, Check := false } : Mod), Port := 0, Head := [0, 0, 0, 0, 0, 0, 0, 0, 0, 0, 0, 0], Rules := ([] : List Rule) } : Msg)).bind fun x4 =>
              (bif (!x4) then
                some (({ Kind := 0, Txn := 0, E := 0, Mod := ({ Kind := 0, Match := ({ Value := [0, 0, 0, 0, 0, 0, 0, 0, 0, 0, 0, 0], Care := [0, 0, 0, 0, 0, 0, 0, 0, 0, 0, 0, 0] } : Cube), Prio := 0, Acts := [], Idle := 0, Hard := 0, Owner := 0, Check := false } : Mod), Port := 0, Head := [0, 0, 0, 0, 0, 0, 0, 0, 0, 0, 0, 0], Rules := [] } : Msg), 2)
              else
                some (({ Kind := (IntKind.i64.wrap v.1), Txn := (IntKind.i64.wrap v1.1), E := 0, Mod := ({ Kind := 0, Match := ({ Value := [0, 0, 0, 0, 0, 0, 0, 0, 0, 0, 0, 0], Care := [0, 0, 0, 0, 0, 0, 0, 0, 0, 0, 0, 0] } : Cube), Prio := 0, Acts := [], Idle := 0, Hard := 0, Owner := 0, Check := false } : Mod), Port := 0, Head := [0, 0, 0, 0, 0, 0, 0, 0, 0, 0, 0, 0], Rules := ([] : List Rule) } : Msg), 0))))))))
theorem podestaref09_Decode_walk (q0 : Nat) (b : List Int) (f_b : Bool) (r : Msg × Int) (H : podestaref09_Decode_raw q0 b = some r) : ACalls Try.prog tab.S 11 [.sl 5 (List.map (intA .u8) b) f_b] [] (.tup [Msg.av r.1, .sc (.int .i64 r.2)]) [] := by
  refine .of_AX podestaref09_Decode_F Try.func11 fun c0 hc0 => ?_
  rw [podestaref09_Decode_raw] at H
  refine .sg 3 [0,2] (.adb 0 14 68 (.sg 4 [0,2,4,5] (.adb 3 14 68 (.rg (.sg 1 [0,2,4,5,14] (bndO H fun v hv H => (.ch [0,2,4,5,15] (es := [(0, false)]) [2] ((podestaref09_Eye_Get_walk 20) ({ B := b, At := 0, Short := false } : Eye) 1 v hv) (.sg 3 [0,2,4,5] (.dn (.sg 1 [0,2,4,5] (.rg (.sg 1 [0,2,4,5,18] (bndO H fun v1 hv H => (.ch [0,2,4,5,19] [2] ((podestaref09_Eye_Get_walk 20) v.2 4 v1 hv) (.sg 3 [0,2,4,5] (.dn (.sg 8 [0,2,4,5,6,23,24] (.cd ((IntKind.i64.wrap v.1) == 1) H (fun hb H => ?_) (fun hb H => ?_)))))))))))))))))))
  ·
    refine .sg 1 [0,2,4,5] (.rg (.sg 1 [0,2,4,5,26] (bndO H fun v2 hv H => (.ch [0,2,4,5,27] [2] ((podestaref09_Eye_Get_walk 20) v1.2 1 v2 hv) (.sg 4 [0,2,4,5] (.dn (.sg 1 [0,2,4,5] (.rg (.sg 1 [0,2,4,5,31] (bndO H fun v3 hv H => (.ch [0,2,4,5,32] [2] (podestaref09_Eye_head_walk v2.2 v3 hv) (.sg 4 [0,2,4,5] (.dn (.sg 1 [0,2,4,5] (.rg (.sg 1 [0,2,4,5,36] (bndO H fun v4 hv H => (.ch [0,2,4,5,37] [2] (podestaref09_Eye_head_walk v3.2 v4 hv) (.sg 4 [0,2,4,5] (.dn (.sg 1 [0,2,4,5] (.rg (.sg 1 [0,2,4,5,41] (bndO H fun v5 hv H => (.ch [0,2,4,5,42] [2] ((podestaref09_Eye_Get_walk 20) v4.2 2 v5 hv) (.sg 4 [0,2,4,5] (.dn (.sg 1 [0,2,4,5] (.rg (.sg 1 [0,2,4,5,46] (bndO H fun v6 hv H => (.ch [0,2,4,5,47] [2] ((podestaref09_Eye_Get_walk 20) v5.2 4 v6 hv) (.sg 4 [0,2,4,5] (.dn (.sg 1 [0,2,4,5] (.rg (.sg 1 [0,2,4,5,51] (bndO H fun v7 hv H => (.ch [0,2,4,5,52] [2] ((podestaref09_Eye_Get_walk 20) v6.2 4 v7 hv) (.sg 4 [0,2,4,5] (.dn (.sg 1 [0,2,4,5] (.rg (.sg 1 [0,2,4,5,56] (bndO H fun v8 hv H => (.ch [0,2,4,5,57] [2] ((podestaref09_Eye_Get_walk 20) v7.2 1 v8 hv) (.sg 4 [0,2,4,5] (.dn (.sg 1 [0,2,4,5] (.rg (.sg 1 [0,2,4,5,61] (bndO H fun v9 hv H => (.ch [0,2,4,5,62] [2] ((podestaref09_Eye_Get_walk 20) v8.2 1 v9 hv) (.sg 1 [0,2,4,5,7] (.dn (.sg 4 [0,2,4,5,6] (.rg (.sg 1 [0,2,4,5,6,69] (bndO H fun v10 hv H => (.ch [0,2,4,5,6,70] [2] ((podestaref09_Eye_acts_walk 300) v9.2 v10 hv) (.sg 3 [0,2,4,5,6] (.dn (.sg 4 [0,2,4,5,6,154] (.cd v10.2.Short H (fun hb H => ?_) (fun hb H => ?_)))))))))))))))))))))))))))))))))))))))))))))))))))))))))))))))))
    ·
      refine .sg 2 [2,3] ?_
      obtain rfl := Option.some.inj H
      exact .ret Try.func11 hc0 [] [(87, false), (68, false)]
    ·
      refine .sg 3 [0,2,4,5,6] (.rg (.sg 2 [0,2,4,5,157] (.mx 1 [2,5,165] (.sg 1 [2,5,166] (.sp 166 ((decide (v9.1 > 1)) || (v10.2.At != (((List.map (intA .u8) b).length : Nat) : Int))) H (fun hb H => ?_) (fun hb H => ?_))))))
      ·
        refine .sg 4 [2,5,170] (.dn (.sg 3 [2,3] ?_))
        obtain rfl := Option.some.inj H
        exact .ret Try.func11 hc0 [] [(87, false), (68, false)]
      ·
        refine .sg 1 [2,5,166,167] (bndO H fun x hv H => (.gcp [2,5,166,168] [4] (podestaref09_Msg_walk ({ Kind := (IntKind.i64.wrap v.1), Txn := (IntKind.i64.wrap v1.1), E := 0, Mod := ({ Kind := (IntKind.i64.wrap v2.1), Match := ({ Value := v3.1, Care := v4.1 } : Cube), Prio := (IntKind.i64.wrap v5.1), Acts := v10.1, Idle := (IntKind.i64.wrap v6.1), Hard := (IntKind.i64.wrap v7.1), Owner := (IntKind.i64.wrap v8.1), Check := (v9.1 == 1) } : Mod), Port := 0, Head := [0, 0, 0, 0, 0, 0, 0, 0, 0, 0, 0, 0], Rules := ([] : List Rule) } : Msg) x hv) (.sg 2 [2,5,170] (.dn (.cd (!x) H (fun hb H => ?_) (fun hb H => ?_))))))
        ·
          refine .sg 2 [2,3] ?_
          obtain rfl := Option.some.inj H
          exact .ret Try.func11 hc0 [] [(87, false), (68, false)]
        ·
          refine .sg 3 [2,3] ?_
          obtain rfl := Option.some.inj H
          exact .ret Try.func11 hc0
  ·
    refine .sg 2 [0,2,4,5,6,23,73] (.cd ((IntKind.i64.wrap v.1) == 6) H (fun hb H => ?_) (fun hb H => ?_))
    ·
      refine .rg (.sg 1 [0,2,4,5,6,75] (bndO H fun v11 hv H => (.ch [0,2,4,5,6,76] [2] ((podestaref09_Eye_Get_walk 20) v1.2 1 v11 hv) (.sg 3 [0,2,4,5,6] (.dn (.sg 4 [0,2,4,5,6,154] (.cd v11.2.Short H (fun hb H => ?_) (fun hb H => ?_))))))))
      ·
        refine .sg 2 [2,3] ?_
        obtain rfl := Option.some.inj H
        exact .ret Try.func11 hc0 [] [(87, false), (68, false)]
      ·
        refine .sg 3 [0,2,4,5,6] (.rg (.sg 11 [2,5,166] (.sp 166 (v11.2.At != (((List.map (intA .u8) b).length : Nat) : Int)) H (fun hb H => ?_) (fun hb H => ?_))))
        ·
          refine .sg 4 [2,5,170] (.dn (.sg 3 [2,3] ?_))
          obtain rfl := Option.some.inj H
          exact .ret Try.func11 hc0 [] [(87, false), (68, false)]
        ·
          refine .sg 1 [2,5,166,167] (bndO H fun x1 hv H => (.gcp [2,5,166,168] (ds := [(87, false)]) [4] (podestaref09_Msg_walk ({ Kind := (IntKind.i64.wrap v.1), Txn := (IntKind.i64.wrap v1.1), E := (IntKind.i64.wrap v11.1), Mod := ({ Kind := 0, Match := ({ Value := [0, 0, 0, 0, 0, 0, 0, 0, 0, 0, 0, 0], Care := [0, 0, 0, 0, 0, 0, 0, 0, 0, 0, 0, 0] } : Cube), Prio := 0, Acts := [], Idle := 0, Hard := 0, Owner := 0, Check := false } : Mod), Port := 0, Head := [0, 0, 0, 0, 0, 0, 0, 0, 0, 0, 0, 0], Rules := ([] : List Rule) } : Msg) x1 hv) (.sg 2 [2,5,170] (.dn (.cd (!x1) H (fun hb H => ?_) (fun hb H => ?_))))))
          ·
            refine .sg 2 [2,3] ?_
            obtain rfl := Option.some.inj H
            exact .ret Try.func11 hc0 [] [(87, false), (68, false)]
          ·
            refine .sg 3 [2,3] ?_
            obtain rfl := Option.some.inj H
            exact .ret Try.func11 hc0 [] [(87, false)]
    ·
      refine .sg 2 [0,2,4,5,6,23,79] (.cd ((IntKind.i64.wrap v.1) == 8) H (fun hb H => ?_) (fun hb H => ?_))
      ·
        refine .sg 1 [0,2,4,5,6] (.rg (.sg 1 [0,2,4,5,6,81] (bndO H fun v12 hv H => (.ch [0,2,4,5,6,82] [2] ((podestaref09_Eye_Get_walk 20) v1.2 1 v12 hv) (.sg 3 [0,2,4,5,6] (.dn (.rg (.sg 1 [0,2,4,5,6,85] (bndO H fun v13 hv H => (.ch [0,2,4,5,6,86] [2] (podestaref09_Eye_head_walk v12.2 v13 hv) (.sg 2 [0,2,4,5,6] (.dn (.sg 4 [0,2,4,5,6,154] (.cd v13.2.Short H (fun hb H => ?_) (fun hb H => ?_)))))))))))))))
        ·
          refine .sg 2 [2,3] ?_
          obtain rfl := Option.some.inj H
          exact .ret Try.func11 hc0 [] [(87, false), (68, false)]
        ·
          refine .sg 3 [0,2,4,5,6] (.rg (.sg 11 [2,5,166] (.sp 166 (v13.2.At != (((List.map (intA .u8) b).length : Nat) : Int)) H (fun hb H => ?_) (fun hb H => ?_))))
          ·
            refine .sg 4 [2,5,170] (.dn (.sg 3 [2,3] ?_))
            obtain rfl := Option.some.inj H
            exact .ret Try.func11 hc0 [] [(87, false), (68, false)]
          ·
            refine .sg 1 [2,5,166,167] (bndO H fun x2 hv H => (.gcp [2,5,166,168] (ds := [(87, false)]) [4] (podestaref09_Msg_walk ({ Kind := (IntKind.i64.wrap v.1), Txn := (IntKind.i64.wrap v1.1), E := 0, Mod := ({ Kind := 0, Match := ({ Value := [0, 0, 0, 0, 0, 0, 0, 0, 0, 0, 0, 0], Care := [0, 0, 0, 0, 0, 0, 0, 0, 0, 0, 0, 0] } : Cube), Prio := 0, Acts := [], Idle := 0, Hard := 0, Owner := 0, Check := false } : Mod), Port := (IntKind.i64.wrap v12.1), Head := v13.1, Rules := ([] : List Rule) } : Msg) x2 hv) (.sg 2 [2,5,170] (.dn (.cd (!x2) H (fun hb H => ?_) (fun hb H => ?_))))))
            ·
              refine .sg 2 [2,3] ?_
              obtain rfl := Option.some.inj H
              exact .ret Try.func11 hc0 [] [(87, false), (68, false)]
            ·
              refine .sg 3 [2,3] ?_
              obtain rfl := Option.some.inj H
              exact .ret Try.func11 hc0 [] [(87, false)]
      ·
        refine .sg 3 [0,2,4,5,6,23,88] (.jn ((IntKind.i64.wrap v.1) == 9) [0, 2, 4, 5, 6, 88] (fun z => [(88, .sc (.bool (bif z then ((IntKind.i64.wrap v.1) == 9) else ((IntKind.i64.wrap v.1) == 10))))]) ?J2 (fun hb J => ?ht2) (fun hb J => ?hf2))
        case ht2 =>
          exact .sg 1 [0,2,4,5,6,88] (.cl J)
        case hf2 =>
          exact .sg 1 [0,2,4,5,6,88] (.cl J)
        refine .cd (bif ((IntKind.i64.wrap v.1) == 9) then ((IntKind.i64.wrap v.1) == 9) else ((IntKind.i64.wrap v.1) == 10)) H (fun hb H => ?_) (fun hb H => ?_)
        ·
          refine .sg 1 [0,2,4,5,6] (.rg (.sg 1 [0,2,4,5,6,91] (bndO H fun v14 hv H => (.ch [0,2,4,5,6,92] [2] ((podestaref09_Eye_Get_walk 20) v1.2 2 v14 hv) (.sg 2 [0,2,4,5,6,8] (.dn (.sg 3 [0,2,4,5,6,8,9] ?_)))))))
          refine bndO H fun v15 hv H => (.into (.to (podestaref09_Decode_l0_walk q0 b v v1 v14 (IntKind.i64.wrap v14.1) (IntKind.i64.wrap v.1) (IntKind.i64.wrap v1.1) f_b r c0 hc0 v15 ?_ q0 0 v14.2.B v14.2.At v14.2.Short ([] : List Rule) hv)))
          refine .sg 4 [0,2,4,5,6,154] (.cd v15.2.2.1 H (fun hb H => ?_) (fun hb H => ?_))
          ·
            refine .sg 2 [2,3] ?_
            obtain rfl := Option.some.inj H
            exact .ret Try.func11 hc0 [] [(87, false), (68, false)]
          ·
            refine .sg 3 [0,2,4,5,6] (.rg (.sg 11 [2,5,166] (.sp 166 (v15.2.1 != (((List.map (intA .u8) b).length : Nat) : Int)) H (fun hb H => ?_) (fun hb H => ?_))))
            ·
              refine .sg 4 [2,5,170] (.dn (.sg 3 [2,3] ?_))
              obtain rfl := Option.some.inj H
              exact .ret Try.func11 hc0 [] [(87, false), (68, false)]
            ·
              refine .sg 1 [2,5,166,167] (bndO H fun x3 hv H => (.gcp [2,5,166,168] (ds := [(87, false)]) [4] (podestaref09_Msg_walk ({ Kind := v15.2.2.2.1, Txn := v15.2.2.2.2.1, E := 0, Mod := ({ Kind := 0, Match := ({ Value := [0, 0, 0, 0, 0, 0, 0, 0, 0, 0, 0, 0], Care := [0, 0, 0, 0, 0, 0, 0, 0, 0, 0, 0, 0] } : Cube), Prio := 0, Acts := [], Idle := 0, Hard := 0, Owner := 0, Check := false } : Mod), Port := 0, Head := [0, 0, 0, 0, 0, 0, 0, 0, 0, 0, 0, 0], Rules := v15.2.2.2.2.2 } : Msg) x3 hv) (.sg 2 [2,5,170] (.dn (.cd (!x3) H (fun hb H => ?_) (fun hb H => ?_))))))
              ·
                refine .sg 2 [2,3] ?_
                obtain rfl := Option.some.inj H
                exact .ret Try.func11 hc0 [] [(87, false), (68, false)]
              ·
                refine .sg 3 [2,3] ?_
                obtain rfl := Option.some.inj H
                exact .ret Try.func11 hc0 [] [(87, false)]
        ·
          refine .sg 5 [0,2,4,5,6,154] (.cd v1.2.Short H (fun hb H => ?_) (fun hb H => ?_))
          ·
            refine .sg 2 [2,3] ?_
            obtain rfl := Option.some.inj H
            exact .ret Try.func11 hc0 [] [(87, false), (68, false)]
          ·
            refine .sg 3 [0,2,4,5,6] (.rg (.sg 11 [2,5,166] (.sp 166 (v1.2.At != (((List.map (intA .u8) b).length : Nat) : Int)) H (fun hb H => ?_) (fun hb H => ?_))))
            ·
              refine .sg 4 [2,5,170] (.dn (.sg 3 [2,3] ?_))
              obtain rfl := Option.some.inj H
              exact .ret Try.func11 hc0 [] [(87, false), (68, false)]
            ·
              refine .sg 1 [2,5,166,167] (bndO H fun x4 hv H => (.gcp [2,5,166,168] (ds := [(87, false)]) [4] (podestaref09_Msg_walk ({ Kind := (IntKind.i64.wrap v.1), Txn := (IntKind.i64.wrap v1.1), E := 0, Mod := ({ Kind := 0, Match := ({ Value := [0, 0, 0, 0, 0, 0, 0, 0, 0, 0, 0, 0], Care := [0, 0, 0, 0, 0, 0, 0, 0, 0, 0, 0, 0] } : Cube), Prio := 0, Acts := [], Idle := 0, Hard := 0, Owner := 0, Check := false } : Mod), Port := 0, Head := [0, 0, 0, 0, 0, 0, 0, 0, 0, 0, 0, 0], Rules := ([] : List Rule) } : Msg) x4 hv) (.sg 2 [2,5,170] (.dn (.cd (!x4) H (fun hb H => ?_) (fun hb H => ?_))))))
              ·
                refine .sg 2 [2,3] ?_
                obtain rfl := Option.some.inj H
                exact .ret Try.func11 hc0 [] [(87, false), (68, false)]
              ·
                refine .sg 3 [2,3] ?_
                obtain rfl := Option.some.inj H
                exact .ret Try.func11 hc0 [] [(87, false)]

end Go.Proofs.Ythfidfjogecnpaa

set_option linter.unusedVariables false
set_option linter.unusedSimpArgs false
set_option maxRecDepth 100000
set_option maxHeartbeats 4000000
namespace Go.Proofs.Ythfidfjogecnpaa
open Go.Sh
/-! ### headers, cubes, actions, changes, rules, messages -/
def encH (h : List Int) : List Int := h.flatMap fun n => beB n 8
def headP : Ps (List Int) := repP (getP 8) 12
def okH (h : List Int) : Prop := h.length = 12 ∧ ∀ a ∈ h, 0 ≤ a ∧ a < ((256 ^ 8 : Nat) : Int)
theorem cod_head : Cod headP encH okH := cod_rep (cod_get 8) 12
theorem u64W {n : Int} : intW .u64 n ↔ 0 ≤ n ∧ n ≤ 18446744073709551615 := by
  simp only [intW, Lit.wf, Bool.and_eq_true, decide_eq_true_eq]
  exact Iff.rfl
theorem p256_8 : ((256 ^ 8 : Nat) : Int) = 18446744073709551616 := by decide
theorem okH_of {h : List Int} (w : arrW .u64 12 h) : okH h := ⟨w.1, fun a ha => by
  have := u64W.1 (w.2 a ha)
  rw [p256_8]
  omega⟩
def cubeP : Ps Cube := bindP headP fun v => bindP headP fun c => pureP ⟨v, c⟩
def encC (c : Cube) : List Int := encH c.Value ++ encH c.Care
def okC (c : Cube) : Prop := okH c.Value ∧ okH c.Care
theorem cod_cube : Cod cubeP encC okC where
  dec := fun b a r hb h => by
    obtain ⟨x1, s1, h1, h⟩ := bindP_some h
    obtain ⟨x2, s2, h2, h⟩ := bindP_some h
    obtain ⟨rfl, rfl⟩ := pureP_some h
    obtain ⟨rfl, v1⟩ := cod_head.dec _ _ _ hb h1
    obtain ⟨rfl, v2⟩ := cod_head.dec _ _ _ hb.right h2
    exact ⟨by simp only [encC, List.append_assoc], v1, v2⟩
  enc := fun a r h => by
    simp only [encC, List.append_assoc]
    rw [cubeP, bindP_eq (cod_head.enc _ _ h.1), bindP_eq (cod_head.enc _ _ h.2)]
    rfl
  byt := fun a h => (cod_head.byt _ h.1).app (cod_head.byt _ h.2)
def actP : Ps Act := bindP (numP 1) fun k => bindP (numP 1) fun p => bindP (numP 1) fun f => bindP (getP 8) fun v => pureP ⟨k, p, f, v⟩
def encA (a : Act) : List Int := encN 1 a.Kind ++ (encN 1 a.Port ++ (encN 1 a.Field ++ beB a.Value 8))
abbrev okN (k : Nat) (n : Int) : Prop := 0 ≤ n ∧ n < ((256 ^ k : Nat) : Int)
def okA (a : Act) : Prop := okN 1 a.Kind ∧ okN 1 a.Port ∧ okN 1 a.Field ∧ okN 8 a.Value
theorem cod_act : Cod actP encA okA where
  dec := fun b a r hb h => by
    obtain ⟨x1, s1, h1, h⟩ := bindP_some h
    obtain ⟨x2, s2, h2, h⟩ := bindP_some h
    obtain ⟨x3, s3, h3, h⟩ := bindP_some h
    obtain ⟨x4, s4, h4, h⟩ := bindP_some h
    obtain ⟨rfl, rfl⟩ := pureP_some h
    obtain ⟨rfl, v1⟩ := (cod_num 1 (by decide)).dec _ _ _ hb h1
    obtain ⟨rfl, v2⟩ := (cod_num 1 (by decide)).dec _ _ _ hb.right h2
    obtain ⟨rfl, v3⟩ := (cod_num 1 (by decide)).dec _ _ _ hb.right.right h3
    obtain ⟨rfl, v4⟩ := (cod_get 8).dec _ _ _ hb.right.right.right h4
    exact ⟨by simp only [encA, List.append_assoc], v1, v2, v3, v4⟩
  enc := fun a r h => by
    simp only [encA, List.append_assoc]
    rw [actP, bindP_eq ((cod_num 1 (by decide)).enc _ _ h.1), bindP_eq ((cod_num 1 (by decide)).enc _ _ h.2.1), bindP_eq ((cod_num 1 (by decide)).enc _ _ h.2.2.1), bindP_eq ((cod_get 8).enc _ _ h.2.2.2)]
    rfl
  byt := fun a h => ((cod_num 1 (by decide)).byt _ h.1).app (((cod_num 1 (by decide)).byt _ h.2.1).app (((cod_num 1 (by decide)).byt _ h.2.2.1).app ((cod_get 8).byt _ h.2.2.2)))
/-- a list, its length ahead -/
def listP {α : Type} (k : Nat) (p : Ps α) : Ps (List α) := bindP (numP k) fun n => repP p n.toNat
def encL {α : Type} (k : Nat) (e : α → List Int) (l : List α) : List Int := encN k l.length ++ l.flatMap e
theorem cod_list {α : Type} {p : Ps α} {e : α → List Int} {V : α → Prop} (k : Nat) (hk : k ≤ 4) (H : Cod p e V) : Cod (listP k p) (encL k e) (fun l => l.length < 256 ^ k ∧ ∀ a ∈ l, V a) where
  dec := fun b a r hb h => by
    obtain ⟨x1, s1, h1, h2⟩ := bindP_some h
    obtain ⟨rfl, v1⟩ := (cod_num k hk).dec _ _ _ hb h1
    obtain ⟨rfl, v2, v3⟩ := (cod_rep H _).dec _ _ _ hb.right h2
    have e1 : (a.length : Int) = x1 := by rw [v2]; exact Int.toNat_of_nonneg v1.1
    refine ⟨by simp only [encL, List.append_assoc, e1], by have := v1.2; omega, v3⟩
  enc := fun a r h => by
    simp only [encL, List.append_assoc]
    rw [listP, bindP_eq ((cod_num k hk).enc _ _ ⟨Int.natCast_nonneg _, by have := h.1; omega⟩)]
    exact (cod_rep H _).enc _ _ ⟨by simp, h.2⟩
  byt := fun a h => ((cod_num k hk).byt _ ⟨Int.natCast_nonneg _, by have := h.1; omega⟩).app ((cod_rep H a.length).byt _ ⟨rfl, h.2⟩)
def encAs : List Act → List Int := encL 1 encA
def okAs (l : List Act) : Prop := l.length < 256 ^ 1 ∧ ∀ a ∈ l, okA a
theorem okAs_nil : okAs [] := ⟨by decide, fun a ha => by cases ha⟩
theorem cod_acts : Cod (listP 1 actP) encAs okAs := cod_list 1 (by decide) cod_act
def modP : Ps (Mod × Int) := bindP (numP 1) fun k => bindP cubeP fun c => bindP (numP 2) fun p => bindP (numP 4) fun i => bindP (numP 4) fun h => bindP (numP 1) fun o => bindP (numP 1) fun q => bindP (listP 1 actP) fun l =>
  pureP (⟨k, c, p, l, i, h, o, q == 1⟩, q)
def encM (m : Mod) (q : Int) : List Int := encN 1 m.Kind ++ (encC m.Match ++ (encN 2 m.Prio ++ (encN 4 m.Idle ++ (encN 4 m.Hard ++ (encN 1 m.Owner ++ (encN 1 q ++ encAs m.Acts))))))
def okM (m : Mod) (q : Int) : Prop := okN 1 m.Kind ∧ okC m.Match ∧ okN 2 m.Prio ∧ okN 4 m.Idle ∧ okN 4 m.Hard ∧ okN 1 m.Owner ∧ okN 1 q ∧ okAs m.Acts ∧ m.Check = (q == 1)
theorem cod_mod : Cod modP (fun x => encM x.1 x.2) (fun x => okM x.1 x.2) where
  dec := fun b a r hb h => by
    obtain ⟨x1, s1, h1, h⟩ := bindP_some h
    obtain ⟨x2, s2, h2, h⟩ := bindP_some h
    obtain ⟨x3, s3, h3, h⟩ := bindP_some h
    obtain ⟨x4, s4, h4, h⟩ := bindP_some h
    obtain ⟨x5, s5, h5, h⟩ := bindP_some h
    obtain ⟨x6, s6, h6, h⟩ := bindP_some h
    obtain ⟨x7, s7, h7, h⟩ := bindP_some h
    obtain ⟨x8, s8, h8, h⟩ := bindP_some h
    obtain ⟨rfl, rfl⟩ := pureP_some h
    obtain ⟨rfl, v1⟩ := (cod_num 1 (by decide)).dec _ _ _ hb h1
    have hb := hb.right
    obtain ⟨rfl, v2⟩ := cod_cube.dec _ _ _ hb h2
    have hb := hb.right
    obtain ⟨rfl, v3⟩ := (cod_num 2 (by decide)).dec _ _ _ hb h3
    have hb := hb.right
    obtain ⟨rfl, v4⟩ := (cod_num 4 (by decide)).dec _ _ _ hb h4
    have hb := hb.right
    obtain ⟨rfl, v5⟩ := (cod_num 4 (by decide)).dec _ _ _ hb h5
    have hb := hb.right
    obtain ⟨rfl, v6⟩ := (cod_num 1 (by decide)).dec _ _ _ hb h6
    have hb := hb.right
    obtain ⟨rfl, v7⟩ := (cod_num 1 (by decide)).dec _ _ _ hb h7
    have hb := hb.right
    obtain ⟨rfl, v8⟩ := cod_acts.dec _ _ _ hb h8
    exact ⟨by simp only [encM, List.append_assoc], v1, v2, v3, v4, v5, v6, v7, v8, rfl⟩
  enc := fun a r h => by
    obtain ⟨⟨k, c, p, l, i, hd, o, q0⟩, q⟩ := a
    obtain ⟨v1, v2, v3, v4, v5, v6, v7, v8, v9⟩ := h
    dsimp only at v1 v2 v3 v4 v5 v6 v7 v8 v9
    subst v9
    simp only [encM, List.append_assoc]
    rw [modP, bindP_eq ((cod_num 1 (by decide)).enc _ _ v1), bindP_eq (cod_cube.enc _ _ v2), bindP_eq ((cod_num 2 (by decide)).enc _ _ v3), bindP_eq ((cod_num 4 (by decide)).enc _ _ v4), bindP_eq ((cod_num 4 (by decide)).enc _ _ v5),
      bindP_eq ((cod_num 1 (by decide)).enc _ _ v6), bindP_eq ((cod_num 1 (by decide)).enc _ _ v7), bindP_eq (cod_acts.enc _ _ v8)]
    rfl
  byt := fun a h => by
    obtain ⟨v1, v2, v3, v4, v5, v6, v7, v8, v9⟩ := h
    exact ((cod_num 1 (by decide)).byt _ v1).app ((cod_cube.byt _ v2).app (((cod_num 2 (by decide)).byt _ v3).app (((cod_num 4 (by decide)).byt _ v4).app (((cod_num 4 (by decide)).byt _ v5).app (((cod_num 1 (by decide)).byt _ v6).app (((cod_num 1 (by decide)).byt _ v7).app (cod_acts.byt _ v8)))))))
def ruleP : Ps Rule := bindP cubeP fun c => bindP (numP 2) fun p => bindP (numP 4) fun i => bindP (numP 4) fun h => bindP (numP 1) fun o => bindP (numP 8) fun x => bindP (numP 8) fun y => bindP (numP 8) fun z => bindP (listP 1 actP) fun l =>
  pureP ⟨c, p, l, i, h, o, x, y, z⟩
def encR (r : Rule) : List Int := encC r.Match ++ (encN 2 r.Prio ++ (encN 4 r.Idle ++ (encN 4 r.Hard ++ (encN 1 r.Owner ++ (encN 8 r.Hits ++ (encN 8 r.Quiet ++ (encN 8 r.Age ++ encAs r.Acts)))))))
def okR (r : Rule) : Prop := okC r.Match ∧ okN 2 r.Prio ∧ okN 4 r.Idle ∧ okN 4 r.Hard ∧ okN 1 r.Owner ∧ intW .i64 r.Hits ∧ intW .i64 r.Quiet ∧ intW .i64 r.Age ∧ okAs r.Acts
theorem cod_rule : Cod ruleP encR okR where
  dec := fun b a r hb h => by
    obtain ⟨x1, s1, h1, h⟩ := bindP_some h
    obtain ⟨x2, s2, h2, h⟩ := bindP_some h
    obtain ⟨x3, s3, h3, h⟩ := bindP_some h
    obtain ⟨x4, s4, h4, h⟩ := bindP_some h
    obtain ⟨x5, s5, h5, h⟩ := bindP_some h
    obtain ⟨x6, s6, h6, h⟩ := bindP_some h
    obtain ⟨x7, s7, h7, h⟩ := bindP_some h
    obtain ⟨x8, s8, h8, h⟩ := bindP_some h
    obtain ⟨x9, s9, h9, h⟩ := bindP_some h
    obtain ⟨rfl, rfl⟩ := pureP_some h
    obtain ⟨rfl, v1⟩ := cod_cube.dec _ _ _ hb h1
    have hb := hb.right
    obtain ⟨rfl, v2⟩ := (cod_num 2 (by decide)).dec _ _ _ hb h2
    have hb := hb.right
    obtain ⟨rfl, v3⟩ := (cod_num 4 (by decide)).dec _ _ _ hb h3
    have hb := hb.right
    obtain ⟨rfl, v4⟩ := (cod_num 4 (by decide)).dec _ _ _ hb h4
    have hb := hb.right
    obtain ⟨rfl, v5⟩ := (cod_num 1 (by decide)).dec _ _ _ hb h5
    have hb := hb.right
    obtain ⟨rfl, v6⟩ := cod_num8.dec _ _ _ hb h6
    have hb := hb.right
    obtain ⟨rfl, v7⟩ := cod_num8.dec _ _ _ hb h7
    have hb := hb.right
    obtain ⟨rfl, v8⟩ := cod_num8.dec _ _ _ hb h8
    have hb := hb.right
    obtain ⟨rfl, v9⟩ := cod_acts.dec _ _ _ hb h9
    exact ⟨by simp only [encR, List.append_assoc], v1, v2, v3, v4, v5, v6, v7, v8, v9⟩
  enc := fun a r h => by
    obtain ⟨v1, v2, v3, v4, v5, v6, v7, v8, v9⟩ := h
    simp only [encR, List.append_assoc]
    rw [ruleP, bindP_eq (cod_cube.enc _ _ v1), bindP_eq ((cod_num 2 (by decide)).enc _ _ v2), bindP_eq ((cod_num 4 (by decide)).enc _ _ v3), bindP_eq ((cod_num 4 (by decide)).enc _ _ v4), bindP_eq ((cod_num 1 (by decide)).enc _ _ v5),
      bindP_eq (cod_num8.enc _ _ v6), bindP_eq (cod_num8.enc _ _ v7), bindP_eq (cod_num8.enc _ _ v8), bindP_eq (cod_acts.enc _ _ v9)]
    rfl
  byt := fun a h => by
    obtain ⟨v1, v2, v3, v4, v5, v6, v7, v8, v9⟩ := h
    exact (cod_cube.byt _ v1).app (((cod_num 2 (by decide)).byt _ v2).app (((cod_num 4 (by decide)).byt _ v3).app (((cod_num 4 (by decide)).byt _ v4).app (((cod_num 1 (by decide)).byt _ v5).app ((cod_num8.byt _ v6).app ((cod_num8.byt _ v7).app ((cod_num8.byt _ v8).app (cod_acts.byt _ v9))))))))
def encRs : List Rule → List Int := encL 2 encR
def okRs (l : List Rule) : Prop := l.length < 256 ^ 2 ∧ ∀ a ∈ l, okR a
theorem cod_rules : Cod (listP 2 ruleP) encRs okRs := cod_list 2 (by decide) cod_rule
def zeros12 : List Int := [0, 0, 0, 0, 0, 0, 0, 0, 0, 0, 0, 0]
def mod0 : Mod := { Kind := 0, Match := { Value := [0, 0, 0, 0, 0, 0, 0, 0, 0, 0, 0, 0], Care := [0, 0, 0, 0, 0, 0, 0, 0, 0, 0, 0, 0] }, Prio := 0, Acts := [], Idle := 0, Hard := 0, Owner := 0, Check := false }
def msg0 (k id : Int) : Msg := { Kind := k, Txn := id, E := 0, Mod := mod0, Port := 0, Head := [0, 0, 0, 0, 0, 0, 0, 0, 0, 0, 0, 0], Rules := [] }
/-- what a kind's message has, and whether that may be so -/
def bodyP (k id : Int) : Ps (Msg × Bool) :=
  if k = 1 then bindP modP fun x => pureP ({ msg0 k id with Mod := x.1 }, decide (x.2 ≤ 1))
  else if k = 6 then bindP (numP 1) fun e => pureP ({ msg0 k id with E := e }, true)
  else if k = 8 then bindP (numP 1) fun p => bindP headP fun h => pureP ({ msg0 k id with Port := p, Head := h }, true)
  else if k = 9 ∨ k = 10 then bindP (listP 2 ruleP) fun l => pureP ({ msg0 k id with Rules := l }, true)
  else pureP (msg0 k id, true)
def msgP : Ps (Msg × Bool) := bindP (numP 1) fun k => bindP (numP 4) fun id => bodyP k id
def encBody (m : Msg) : List Int :=
  if m.Kind = 1 then encM m.Mod (if m.Mod.Check then 1 else 0)
  else if m.Kind = 6 then encN 1 m.E
  else if m.Kind = 8 then encN 1 m.Port ++ encH m.Head
  else if m.Kind = 9 ∨ m.Kind = 10 then encRs m.Rules
  else []
def encMsg (m : Msg) : List Int := encN 1 m.Kind ++ (encN 4 m.Txn ++ encBody m)
theorem body_dec {k id : Int} {b r : List Int} {m : Msg} (hb : Bytes b) (h : bodyP k id b = some ((m, true), r)) : b = encBody m ++ r ∧ m.Kind = k ∧ m.Txn = id ∧ (∀ y ∈ m.Rules, okAs y.Acts) ∧ okAs m.Mod.Acts := by
  unfold bodyP at h
  split at h
  · rename_i hk
    obtain ⟨x, s, h1, h⟩ := bindP_some h
    obtain ⟨e, rfl⟩ := pureP_some h
    injection e with e1 e2
    obtain ⟨rfl, v⟩ := cod_mod.dec _ _ _ hb h1
    obtain ⟨v1, v2, v3, v4, v5, v6, v7, v8, v9⟩ := v
    subst e1
    refine ⟨?_, rfl, rfl, (fun y hy => by cases hy), v8⟩
    have hq : (if x.1.Check then (1 : Int) else 0) = x.2 := by
      rw [v9]
      have : x.2 ≤ 1 := of_decide_eq_true e2
      have h0 := v7.1
      by_cases hx : x.2 = 1
      · rw [hx]; rfl
      · have : x.2 = 0 := by omega
        rw [this]; rfl
    simp only [encBody, msg0, hk, if_true]
    rw [hq]
  · split at h
    · rename_i hk1 hk
      obtain ⟨x, s, h1, h⟩ := bindP_some h
      obtain ⟨e, rfl⟩ := pureP_some h
      injection e with e1 e2
      obtain ⟨rfl, v⟩ := (cod_num 1 (by decide)).dec _ _ _ hb h1
      subst e1
      refine ⟨?_, rfl, rfl, (fun y hy => by cases hy), okAs_nil⟩
      simp [encBody, msg0, hk]
    · split at h
      · rename_i hk1 hk2 hk
        obtain ⟨x, s, h1, h⟩ := bindP_some h
        obtain ⟨x2, s2, h2, h⟩ := bindP_some h
        obtain ⟨e, rfl⟩ := pureP_some h
        injection e with e1 e2
        obtain ⟨rfl, v⟩ := (cod_num 1 (by decide)).dec _ _ _ hb h1
        obtain ⟨rfl, v2⟩ := cod_head.dec _ _ _ hb.right h2
        subst e1
        refine ⟨?_, rfl, rfl, (fun y hy => by cases hy), okAs_nil⟩
        simp [encBody, msg0, hk]
      · split at h
        · rename_i hk1 hk2 hk3 hk
          obtain ⟨x, s, h1, h⟩ := bindP_some h
          obtain ⟨e, rfl⟩ := pureP_some h
          injection e with e1 e2
          obtain ⟨rfl, v⟩ := cod_rules.dec _ _ _ hb h1
          subst e1
          refine ⟨?_, rfl, rfl, (fun y hy => (v.2 y hy).2.2.2.2.2.2.2.2), okAs_nil⟩
          simp only [encBody, msg0, hk1, hk2, hk3, hk, if_true, if_false]
        · rename_i hk1 hk2 hk3 hk
          obtain ⟨e, rfl⟩ := pureP_some h
          injection e with e1 e2
          subst e1
          refine ⟨?_, rfl, rfl, (fun y hy => by cases hy), okAs_nil⟩
          simp only [encBody, msg0, hk1, hk2, hk3, hk, if_false, List.nil_append]
theorem msg_dec {b r : List Int} {m : Msg} (hb : Bytes b) (h0 : msgP b = some ((m, true), r)) : b = encMsg m ++ r ∧ okN 1 m.Kind ∧ okN 4 m.Txn ∧ (∀ y ∈ m.Rules, okAs y.Acts) ∧ okAs m.Mod.Acts := by
  obtain ⟨k, s, h1, h⟩ := bindP_some (show bindP (numP 1) (fun k => bindP (numP 4) fun id => bodyP k id) b = _ from h0)
  obtain ⟨id, s2, h2, h5⟩ := bindP_some h
  clear h0 h
  obtain ⟨rfl, v1⟩ := (cod_num 1 (by decide)).dec _ _ _ hb h1
  obtain ⟨rfl, v2⟩ := (cod_num 4 (by decide)).dec _ _ _ hb.right h2
  obtain ⟨rfl, h3, h4, v3, v4⟩ := body_dec hb.right.right h5
  subst h3
  subst h4
  exact ⟨by simp only [encMsg, List.append_assoc], v1, v2, v3, v4⟩

end Go.Proofs.Ythfidfjogecnpaa

set_option linter.unusedVariables false
set_option linter.unusedSimpArgs false
set_option maxRecDepth 100000
set_option maxHeartbeats 4000000
namespace Go.Proofs.Ythfidfjogecnpaa
open Go.Sh
theorem mods_Same_eq (a b : Mod) : mods_Same a b = (a == b) := by
  rw [mods_Same, act_Same, Bool.eq_iff_iff]
  obtain ⟨k, ⟨v, c⟩, p, ac, i1, h1, o1, q1⟩ := a
  obtain ⟨k', ⟨v', c'⟩, p', ac', i1', h1', o1', q1'⟩ := b
  simp only [Bool.and_eq_true, beq_iff_eq, Mod.mk.injEq, Cube.mk.injEq]
  constructor <;> intro h <;> simp_all
theorem ref_SameMods_eq (a b : Mod) : podestaref04_SameMods a b = (a == b) := by
  rw [podestaref04_SameMods, Bool.eq_iff_iff]
  obtain ⟨k, ⟨v, c⟩, p, ac, i1, h1, o1, q1⟩ := a
  obtain ⟨k', ⟨v', c'⟩, p', ac', i1', h1', o1', q1'⟩ := b
  simp only [Bool.and_eq_true, beq_iff_eq, Mod.mk.injEq, Cube.mk.injEq]
  constructor <;> intro h <;> simp_all

/-! ### what may be is read as it was written -/
theorem okA_of {a : Act} (w : Act.wf a) (h : actOk a = true) : okA a := by
  have h4 := u64W.1 w.2.2.2
  have h8 := p256_8
  unfold actOk at h
  have hr : okN 1 a.Kind ∧ okN 1 a.Port ∧ okN 1 a.Field := by
    by_cases h1 : a.Kind = 1
    · simp only [h1, beq_self_eq_true, cond_true, Bool.and_eq_true, decide_eq_true_eq, beq_iff_eq] at h
      simp only [okN]
      omega
    · have e1 : (a.Kind == 1) = false := by simpa using h1
      by_cases h2 : a.Kind = 2
      · have e2 : (a.Kind == 2) = true := by simpa using h2
        simp only [e1, e2, cond_true, cond_false, Bool.and_eq_true, decide_eq_true_eq, beq_iff_eq] at h
        simp only [okN]
        omega
      · have e2 : (a.Kind == 2) = false := by simpa using h2
        simp only [e1, e2, cond_false, Bool.and_eq_true, beq_iff_eq] at h
        simp only [okN]
        omega
  exact ⟨hr.1, hr.2.1, hr.2.2, h4.1, by omega⟩
theorem okAs_of {l : List Act} (w : ∀ y ∈ l, Act.wf y) (h : act_Sound l = true) : okAs l := by
  rw [act_Sound_eq (Act.wf_val w), ActsOk, Bool.and_eq_true, decide_eq_true_eq, List.all_eq_true] at h
  exact ⟨by omega, fun a ha => okA_of (w a ha) (h.1 a ha)⟩
theorem okC_of {c : Cube} (w : Cube.wf c) : okC c := ⟨okH_of w.1, okH_of w.2⟩
theorem okR_of {r : Rule} (w : Rule.wf r) (h : rule_Sound r = true) : okR r := by
  simp only [rule_Sound, min3_nonneg, rule_span, Bool.and_eq_true, decide_eq_true_eq] at h
  obtain ⟨w1, w2, w3, w4, w5, w6, w7, w8, w9⟩ := w
  exact ⟨okC_of w1, by simp only [okN]; omega, by simp only [okN]; omega, by simp only [okN]; omega, by simp only [okN]; omega, w7, w8, w9, okAs_of w3 h.1.1.1.1.1.2⟩
theorem okM_of {m : Mod} (w : Mod.wf m) (h : mods_Sound m = true) : okM m (if m.Check then 1 else 0) := by
  obtain ⟨w1, w2, w3, w4, w5, w6, w7, _⟩ := w
  unfold mods_Sound at h
  cases hb : (((!cube_Sound m.Match || !act_Sound m.Acts) || !mods_span m.Prio 65535) || !mods_span m.Owner 255) with
  | true => rw [hb, cond_true] at h; cases h
  | false =>
    rw [hb, cond_false] at h
    simp only [Bool.or_eq_false_iff, Bool.not_eq_false', mods_span, Bool.and_eq_true, decide_eq_true_eq] at hb
    have key : okN 1 m.Kind ∧ okN 4 m.Idle ∧ okN 4 m.Hard := by
      by_cases h1 : m.Kind = 1
      · have e1 : (m.Kind == 1) = true := by simpa using h1
        simp only [e1, cond_true, mods_span, Bool.and_eq_true, decide_eq_true_eq] at h
        simp only [okN]
        omega
      · have e1 : (m.Kind == 1) = false := by simpa using h1
        by_cases h2 : m.Kind = 2
        · have e2 : (m.Kind == 2) = true := by simpa using h2
          simp only [e1, e2, cond_true, cond_false, mods_plain, Bool.and_eq_true, beq_iff_eq] at h
          simp only [okN]
          omega
        · have e2 : (m.Kind == 2) = false := by simpa using h2
          by_cases h3 : m.Kind = 3
          · have e3 : (m.Kind == 3) = true := by simpa using h3
            simp only [e1, e2, e3, cond_true, cond_false, mods_plain, Bool.and_eq_true, beq_iff_eq] at h
            simp only [okN]
            omega
          · have e3 : (m.Kind == 3) = false := by simpa using h3
            by_cases h4 : m.Kind = 4
            · have e4 : (m.Kind == 4) = true := by simpa using h4
              simp only [e1, e2, e3, e4, cond_true, cond_false, mods_plain, Bool.and_eq_true, beq_iff_eq] at h
              simp only [okN]
              omega
            · have e4 : (m.Kind == 4) = false := by simpa using h4
              by_cases h5 : m.Kind = 5
              · have e5 : (m.Kind == 5) = true := by simpa using h5
                simp only [e1, e2, e3, e4, e5, cond_true, cond_false, mods_plain, Bool.and_eq_true, beq_iff_eq] at h
                simp only [okN]
                omega
              · have e5 : (m.Kind == 5) = false := by simpa using h5
                simp only [e1, e2, e3, e4, e5, cond_false] at h
                cases h
    refine ⟨key.1, okC_of w2, by simp only [okN]; omega, key.2.1, key.2.2, by simp only [okN]; omega, ?_, okAs_of w4 hb.1.1.2, ?_⟩
    · split <;> simp only [okN] <;> decide
    · cases m.Check <;> rfl
theorem empty_iff (m : Msg) : code_empty m = true ↔ m = msg0 m.Kind m.Txn := by
  obtain ⟨k, id, e, md, p, h, l⟩ := m
  simp only [code_empty, mods_Same_eq, Bool.and_eq_true, beq_iff_eq, msg0, Msg.mk.injEq, mod0]
  constructor
  · rintro ⟨⟨⟨⟨h1, h2⟩, h3⟩, h4⟩, h5⟩
    refine ⟨trivial, trivial, h1, h2, h3, h4, ?_⟩
    rw [List.length_map] at h5
    exact List.eq_nil_of_length_eq_zero (by omega)
  · rintro ⟨_, _, h1, h2, h3, h4, h5⟩
    exact ⟨⟨⟨⟨h1, h2⟩, h3⟩, h4⟩, by rw [h5]; rfl⟩
/-- what a message may be, kind by kind -/
inductive MsgOk (m : Msg) : Prop
  | mod : m.Kind = 1 → m = { msg0 1 m.Txn with Mod := m.Mod } → mods_Sound m.Mod = true → MsgOk m
  | err : m.Kind = 6 → m = { msg0 6 m.Txn with E := m.E } → 1 ≤ m.E → m.E ≤ 17 → MsgOk m
  | pkt : m.Kind = 8 → m = { msg0 8 m.Txn with Port := m.Port, Head := m.Head } → 1 ≤ m.Port → m.Port ≤ 16 → head_Sound m.Head = true → MsgOk m
  | rul : m.Kind = 9 ∨ m.Kind = 10 → m = { msg0 m.Kind m.Txn with Rules := m.Rules } → tableR m.Rules = true → (m.Kind = 10 ∨ m.Rules.length = 1) → MsgOk m
  | bare : m.Kind ≠ 1 → m.Kind ≠ 6 → m.Kind ≠ 8 → m.Kind ≠ 9 → m.Kind ≠ 10 → m = msg0 m.Kind m.Txn → 1 ≤ m.Kind → m.Kind ≤ 10 → MsgOk m
theorem ne_beq {a b : Int} (h : a ≠ b) : (a == b) = false := by simpa using h
theorem sound_iff (m : Msg) : code_Sound m = true ↔ (0 ≤ m.Txn ∧ m.Txn ≤ 4294967295) ∧ MsgOk m := by
  simp only [code_Sound, Bool.and_eq_true, decide_eq_true_eq]
  refine and_congr Iff.rfl ?_
  unfold code_body
  by_cases h1 : m.Kind = 1
  · have e1 : (m.Kind == 1) = true := by simpa using h1
    rw [e1, cond_true, Bool.and_eq_true, empty_iff]
    obtain ⟨k, id, e, md, p, h, l⟩ := m
    dsimp only at *
    subst h1
    constructor
    · rintro ⟨h2, h3⟩
      refine .mod rfl ?_ h3
      simp only [msg0, Msg.mk.injEq] at h2 ⊢
      simp_all
    · intro h2
      cases h2 with
      | mod _ h2 h3 =>
        refine ⟨?_, h3⟩
        simp only [msg0, Msg.mk.injEq] at h2 ⊢
        exact ⟨trivial, trivial, h2.2.2.1, rfl, h2.2.2.2.2⟩
      | err h => cases h
      | pkt h => cases h
      | rul h => rcases h with h | h <;> cases h
      | bare h => exact absurd rfl h
  · rw [ne_beq h1, cond_false]
    by_cases h6 : m.Kind = 6
    · have e1 : (m.Kind == 6) = true := by simpa using h6
      rw [e1, cond_true, Bool.and_eq_true, Bool.and_eq_true, empty_iff, decide_eq_true_eq, decide_eq_true_eq]
      obtain ⟨k, id, e, md, p, h, l⟩ := m
      dsimp only at *
      subst h6
      constructor
      · rintro ⟨⟨h2, h3⟩, h4⟩
        refine .err rfl ?_ h3 h4
        simp only [msg0, Msg.mk.injEq] at h2 ⊢
        simp_all
      · intro h2
        cases h2 with
        | err _ h2 h3 h4 =>
          refine ⟨⟨?_, h3⟩, h4⟩
          simp only [msg0, Msg.mk.injEq] at h2 ⊢
          simp_all
        | mod h => cases h
        | pkt h => cases h
        | rul h => rcases h with h | h <;> cases h
        | bare _ h => exact absurd rfl h
    · rw [ne_beq h6, cond_false]
      by_cases h8 : m.Kind = 8
      · have e1 : (m.Kind == 8) = true := by simpa using h8
        rw [e1, cond_true, Bool.and_eq_true, Bool.and_eq_true, Bool.and_eq_true, empty_iff, decide_eq_true_eq, decide_eq_true_eq]
        obtain ⟨k, id, e, md, p, h, l⟩ := m
        dsimp only at *
        subst h8
        constructor
        · rintro ⟨⟨⟨h2, h3⟩, h4⟩, h5⟩
          refine .pkt rfl ?_ h3 h4 h5
          simp only [msg0, Msg.mk.injEq] at h2 ⊢
          simp_all
        · intro h2
          cases h2 with
          | pkt _ h2 h3 h4 h5 =>
            refine ⟨⟨⟨?_, h3⟩, h4⟩, h5⟩
            simp only [msg0, Msg.mk.injEq] at h2 ⊢
            simp_all
          | mod h => cases h
          | err h => cases h
          | rul h => rcases h with h | h <;> cases h
          | bare _ _ h => exact absurd rfl h
      · rw [ne_beq h8, cond_false]
        by_cases h9 : m.Kind = 9 ∨ m.Kind = 10
        · have e1 : (bif (m.Kind == 9) then (m.Kind == 9) else (m.Kind == 10)) = true := by
            rcases h9 with h | h <;> rw [h] <;> rfl
          rw [e1, cond_true, Bool.and_eq_true, Bool.and_eq_true, Bool.or_eq_true, empty_iff, beq_iff_eq, beq_iff_eq, List.length_map]
          obtain ⟨k, id, e, md, p, h, l⟩ := m
          dsimp only at *
          constructor
          · rintro ⟨⟨h2, h3⟩, h4⟩
            refine .rul h9 ?_ h3 (by dsimp only; omega)
            simp only [msg0, Msg.mk.injEq] at h2 ⊢
            simp_all
          · intro h2
            cases h2 with
            | rul _ h2 h3 h4 =>
              refine ⟨⟨?_, h3⟩, by dsimp only at h4; omega⟩
              simp only [msg0, Msg.mk.injEq] at h2 ⊢
              simp_all
            | mod h => exact absurd h h1
            | err h => exact absurd h h6
            | pkt h => exact absurd h h8
            | bare _ _ _ h h' => rcases h9 with h9 | h9; exact absurd h9 h; exact absurd h9 h'
        · have n9 : m.Kind ≠ 9 := fun h => h9 (.inl h)
          have n10 : m.Kind ≠ 10 := fun h => h9 (.inr h)
          rw [ne_beq n9, ne_beq n10, cond_false, cond_false, Bool.and_eq_true, Bool.and_eq_true, empty_iff, decide_eq_true_eq, decide_eq_true_eq]
          constructor
          · rintro ⟨⟨h2, h3⟩, h4⟩
            exact .bare h1 h6 h8 n9 n10 h2 h3 h4
          · intro h2
            cases h2 with
            | bare _ _ _ _ _ h2 h3 h4 => exact ⟨⟨h2, h3⟩, h4⟩
            | mod h => exact absurd h h1
            | err h => exact absurd h h6
            | pkt h => exact absurd h h8
            | rul h => exact absurd h h9
theorem msg_okRs {m : Msg} (w : Msg.wf m) (h : tableR m.Rules = true) (hl : m.Rules.length ≤ 65535) : okRs m.Rules := by
  obtain ⟨_, _, _, _, _, _, w7⟩ := w
  have key : ∀ (l : List Rule) (p : Option Rule), tableF p l = true → ∀ y ∈ l, rule_Sound y = true := by
    intro l
    induction l with
    | nil => intro p _ y hy; cases hy
    | cons x l ih =>
      intro p hp y hy
      rw [tableF_cons, Bool.and_eq_true, Bool.and_eq_true] at hp
      rcases List.mem_cons.1 hy with rfl | hy
      · exact hp.1.1
      · exact ih _ hp.2 y hy
  exact ⟨by have : (256 : Nat) ^ 2 = 65536 := by decide
            omega, fun a ha => okR_of (w7 a ha) (key _ _ h a ha)⟩
theorem msg_enc {m : Msg} (w : Msg.wf m) (h : code_Sound m = true) (hl : m.Rules.length ≤ 65535) (r : List Int) : msgP (encMsg m ++ r) = some ((m, true), r) := by
  obtain ⟨hT, hO⟩ := (sound_iff m).1 h
  have w0 := w
  obtain ⟨w1, w2, w3, w4, w5, w6, w7⟩ := w
  have hk : okN 1 m.Kind := by cases hO <;> simp only [okN] <;> omega
  have ht : okN 4 m.Txn := by simp only [okN]; omega
  simp only [encMsg, List.append_assoc]
  rw [msgP, bindP_eq ((cod_num 1 (by decide)).enc _ _ hk), bindP_eq ((cod_num 4 (by decide)).enc _ _ ht)]
  cases hO with
  | mod k e hs =>
    have he := cod_mod.enc (m.Mod, if m.Mod.Check then 1 else 0) r (okM_of w4 hs)
    rw [bodyP, if_pos k, encBody, if_pos k, bindP_eq he]
    have hc : decide ((if m.Mod.Check then (1 : Int) else 0) ≤ 1) = true := by cases m.Mod.Check <;> rfl
    dsimp only
    rw [hc, k]
    exact congrArg (fun x => some ((x, true), r)) e.symm
  | err k e h1 h2 =>
    have he := (cod_num 1 (by decide)).enc m.E r ⟨by omega, by omega⟩
    rw [bodyP, if_neg (by omega), if_pos k, encBody, if_neg (by omega), if_pos k, bindP_eq he, k]
    exact congrArg (fun x => some ((x, true), r)) e.symm
  | pkt k e h1 h2 h3 =>
    have he := (cod_num 1 (by decide)).enc m.Port (encH m.Head ++ r) ⟨by omega, by omega⟩
    have he2 := cod_head.enc m.Head r (okH_of w6)
    rw [bodyP, if_neg (by omega), if_neg (by omega), if_pos k, encBody, if_neg (by omega), if_neg (by omega), if_pos k, List.append_assoc, bindP_eq he, bindP_eq he2, k]
    exact congrArg (fun x => some ((x, true), r)) e.symm
  | rul k e h1 h2 =>
    have he := cod_rules.enc m.Rules r (msg_okRs w0 h1 hl)
    rw [bodyP, if_neg (by omega), if_neg (by omega), if_neg (by omega), if_pos k, encBody, if_neg (by omega), if_neg (by omega), if_neg (by omega), if_pos k, bindP_eq he]
    exact congrArg (fun x => some ((x, true), r)) e.symm
  | bare n1 n6 n8 n9 n10 e h1 h2 =>
    rw [bodyP, if_neg n1, if_neg n6, if_neg n8, if_neg (by omega), encBody, if_neg n1, if_neg n6, if_neg n8, if_neg (by omega), List.nil_append]
    exact congrArg (fun x => some ((x, true), r)) e.symm
/-- what some bytes are, or why they are nothing -/
def decS (b : List Int) : Msg × Int :=
  match msgP b with
  | none => (msg0 0 0, 8)
  | some ((m, ok), r) => if ok = true ∧ r = [] ∧ code_Sound m = true then (m, 0) else (msg0 0 0, 2)
theorem decS_enc {m : Msg} (w : Msg.wf m) (h : code_Sound m = true) (hl : m.Rules.length ≤ 65535) : decS (encMsg m) = (m, 0) := by
  have := msg_enc w h hl []
  rw [List.append_nil] at this
  rw [decS, this]
  exact if_pos ⟨rfl, rfl, h⟩
theorem decS_ok {b : List Int} {m : Msg} {e : Int} (hb : Bytes b) (h : decS b = (m, e)) : (e = 0 → b = encMsg m ∧ code_Sound m = true ∧ (∀ y ∈ m.Rules, okAs y.Acts) ∧ okAs m.Mod.Acts) ∧ (e ≠ 0 → m = msg0 0 0) := by
  unfold decS at h
  split at h
  · injection h with h1 h2
    subst h1; subst h2
    exact ⟨(fun h => by cases h), fun _ => rfl⟩
  · rename_i m' ok r hp
    split at h
    · rename_i hc
      injection h with h1 h2
      subst h1; subst h2
      obtain ⟨rfl, rfl, hs⟩ := hc
      obtain ⟨h3, _, _, h4, h5⟩ := msg_dec hb hp
      rw [List.append_nil] at h3
      exact ⟨fun _ => ⟨h3, hs, h4, h5⟩, fun h => absurd rfl h⟩
    · injection h with h1 h2
      subst h1; subst h2
      exact ⟨(fun h => by cases h), fun _ => rfl⟩
theorem encMsg_bytes {m : Msg} (w : Msg.wf m) (h : code_Sound m = true) (hl : m.Rules.length ≤ 65535) : Bytes (encMsg m) := by
  obtain ⟨hT, hO⟩ := (sound_iff m).1 h
  have w0 := w
  obtain ⟨w1, w2, w3, w4, w5, w6, w7⟩ := w
  have hk : okN 1 m.Kind := by cases hO <;> simp only [okN] <;> omega
  have ht : okN 4 m.Txn := by simp only [okN]; omega
  refine ((cod_num 1 (by decide)).byt _ hk).app (((cod_num 4 (by decide)).byt _ ht).app ?_)
  unfold encBody
  cases hO with
  | mod k e hs => rw [if_pos k]; exact cod_mod.byt (m.Mod, _) (okM_of w4 hs)
  | err k e h1 h2 => rw [if_neg (by omega), if_pos k]; exact (cod_num 1 (by decide)).byt _ ⟨by omega, by omega⟩
  | pkt k e h1 h2 h3 => rw [if_neg (by omega), if_neg (by omega), if_pos k]; exact ((cod_num 1 (by decide)).byt _ ⟨by omega, by omega⟩).app (cod_head.byt _ (okH_of w6))
  | rul k e h1 h2 => rw [if_neg (by omega), if_neg (by omega), if_neg (by omega), if_pos k]; exact cod_rules.byt _ (msg_okRs w0 h1 hl)
  | bare n1 n6 n8 n9 n10 e h1 h2 => rw [if_neg n1, if_neg n6, if_neg n8, if_neg (by omega)]; intro y hy; cases hy
/-- what is read stays so with more behind -/
def Ext {α : Type} (p : Ps α) : Prop := ∀ b a r, Bytes b → p b = some (a, r) → Bytes r ∧ ∀ c, p (b ++ c) = some (a, r ++ c)
theorem Cod.ext {α : Type} {p : Ps α} {e : α → List Int} {V : α → Prop} (H : Cod p e V) : Ext p := fun b a r hb h => by
  obtain ⟨h1, h2⟩ := H.dec b a r hb h
  subst h1
  exact ⟨hb.right, fun c => by rw [List.append_assoc]; exact H.enc a _ h2⟩
theorem ext_bind {α β : Type} {p : Ps α} {q : α → Ps β} (h1 : Ext p) (h2 : ∀ a, Ext (q a)) : Ext (bindP p q) := fun b x r hb h => by
  obtain ⟨a, s, h3, h4⟩ := bindP_some h
  obtain ⟨h5, h6⟩ := h1 b a s hb h3
  obtain ⟨h7, h8⟩ := h2 a s x r h5 h4
  exact ⟨h7, fun c => by rw [bindP_eq (h6 c)]; exact h8 c⟩
theorem ext_pure {α : Type} (a : α) : Ext (pureP a) := fun b x r hb h => by
  obtain ⟨rfl, rfl⟩ := pureP_some h
  exact ⟨hb, fun c => rfl⟩
theorem ext_body (k id : Int) : Ext (bodyP k id) := by
  unfold bodyP
  split
  · exact ext_bind cod_mod.ext fun a => ext_pure _
  · split
    · exact ext_bind (cod_num 1 (by decide)).ext fun a => ext_pure _
    · split
      · exact ext_bind (cod_num 1 (by decide)).ext fun a => ext_bind cod_head.ext fun a => ext_pure _
      · split
        · exact ext_bind cod_rules.ext fun a => ext_pure _
        · exact ext_pure _
theorem ext_msg : Ext msgP := ext_bind (cod_num 1 (by decide)).ext fun a => ext_bind (cod_num 4 (by decide)).ext fun a => ext_body _ _
/-- no beginning of a message's bytes is one, and none with more behind -/
theorem decS_cut {m : Msg} (w : Msg.wf m) (h : code_Sound m = true) (hl : m.Rules.length ≤ 65535) {b c : List Int} (e : encMsg m = b ++ c) (hc : c ≠ []) : msgP b = none := by
  cases hp : msgP b with
  | none => rfl
  | some x =>
    exfalso
    have hb : Bytes b := by
      have := encMsg_bytes w h hl
      rw [e] at this
      exact this.left
    have h1 := (ext_msg b x.1 x.2 hb hp).2 c
    have h2 := msg_enc w h hl []
    rw [List.append_nil, e, h1] at h2
    injection h2 with h2
    injection h2 with _ h2
    exact hc (List.append_eq_nil_iff.1 h2).2
theorem decS_more {m : Msg} (w : Msg.wf m) (h : code_Sound m = true) (hl : m.Rules.length ≤ 65535) {c : List Int} (hc : c ≠ []) : (decS (encMsg m ++ c)).2 = 2 := by
  rw [decS, msg_enc w h hl c]
  dsimp only
  rw [if_neg (fun h => hc h.2.1)]

end Go.Proofs.Ythfidfjogecnpaa

set_option linter.unusedVariables false
set_option linter.unusedSimpArgs false
set_option maxRecDepth 100000
set_option maxHeartbeats 4000000
namespace Go.Proofs.Ythfidfjogecnpaa
open Go.Sh
/-! ### writers -/
abbrev roomW : Nat := 140737488355328
def WrS (G : Writer → Option Writer) (e : List Int) : Prop := ∀ w : Writer, w.b.length + e.length + 8 ≤ roomW → G w = some ⟨w.b ++ e⟩
theorem wr_put (n : Int) (k : Nat) (hk : k ≤ 8) : WrS (fun w => putW w n (k : Int)) (beB n k) := by
  intro w h
  dsimp only
  have h' : w.b.length + (beB n k).length + 8 ≤ 140737488355328 := h
  rw [putW, if_pos ⟨by omega, by omega, by omega⟩, Int.toNat_natCast]
theorem wr_bind {F : Writer → Option Writer} {G : Writer → Option Writer} {e f : List Int} (h1 : WrS F e) (h2 : WrS G f) : WrS (fun w => (F w).bind G) (e ++ f) := by
  intro w h
  dsimp only
  rw [List.length_append] at h
  rw [h1 w (by omega), Option.bind_some, h2 ⟨w.b ++ e⟩ (by rw [List.length_append]; omega), List.append_assoc]
theorem wr_done : WrS (fun w => some w) [] := fun w h => by rw [List.append_nil]
theorem w1 (n : Int) : WrS (fun w => putW w n 1) (beB n 1) := wr_put n 1 (by decide)
theorem w2 (n : Int) : WrS (fun w => putW w n 2) (beB n 2) := wr_put n 2 (by decide)
theorem w4 (n : Int) : WrS (fun w => putW w n 4) (beB n 4) := wr_put n 4 (by decide)
theorem w8 (n : Int) : WrS (fun w => putW w n 8) (beB n 8) := wr_put n 8 (by decide)
theorem head_l0s_wr (h : List Int) : ∀ (n t : Nat) (o : List Int), t + n = h.length → o.length + 8 * n + 8 ≤ roomW → code_writer_head_l0s h n t o = some (o ++ encH (h.drop t))
  | 0, t, o, hl, hr => by rw [code_writer_head_l0s, List.drop_eq_nil_of_le (by omega), encH, List.flatMap_nil, List.append_nil]
  | n + 1, t, o, hl, hr => by
    have hlt : t < h.length := by omega
    have e1 : putW { b := o } (h.getD t 0) 8 = some ⟨o ++ beB (h.getD t 0) 8⟩ := w8 _ ⟨o⟩ (by dsimp only; rw [beB_length]; omega)
    rw [code_writer_head_l0s, e1, Option.bind_some, head_l0s_wr h n (t + 1) _ (by omega) (by rw [List.length_append, beB_length]; omega), List.drop_eq_getElem_cons hlt, List.getD_eq_getElem?_getD, List.getElem?_eq_getElem hlt, Option.getD_some, encH, encH, List.flatMap_cons, List.append_assoc]
theorem head_wr {h : List Int} (hl : h.length = 12) : WrS (fun w => code_writer_head_raw w h) (encH h) := by
  intro w hr
  dsimp only
  have hn : (encH h).length = 96 := by
    have : ∀ l : List Int, (encH l).length = 8 * l.length := by
      intro l
      induction l with
      | nil => rfl
      | cons x l ih => rw [encH, List.flatMap_cons, List.length_append, beB_length, ← encH, ih, List.length_cons]; omega
    rw [this, hl]
  rw [code_writer_head_raw, head_l0s_wr h 12 0 w.b (by omega) (by omega), Option.bind_some, List.drop_zero]
theorem acts_l0s_wr : ∀ (l : List Act) (o : List Int), o.length + (l.flatMap encA).length + 8 ≤ roomW → code_writer_acts_l0s l o = some (o ++ l.flatMap encA)
  | [], o, hr => by rw [code_writer_acts_l0s, List.flatMap_nil, List.append_nil]
  | x :: l, o, hr => by
    rw [List.flatMap_cons, List.length_append] at hr
    have hx : (encA x).length = 11 := by simp only [encA, encN, List.length_append, beB_length]
    have e1 : putW { b := o } (IntKind.u64.wrap x.Kind) 1 = some ⟨o ++ encN 1 x.Kind⟩ := w1 _ ⟨o⟩ (by dsimp only; rw [beB_length]; omega)
    have e2 : putW ⟨o ++ encN 1 x.Kind⟩ (IntKind.u64.wrap x.Port) 1 = some ⟨(o ++ encN 1 x.Kind) ++ encN 1 x.Port⟩ := w1 _ ⟨_⟩ (by dsimp only; simp only [encN, List.length_append, beB_length]; omega)
    have e3 : putW ⟨(o ++ encN 1 x.Kind) ++ encN 1 x.Port⟩ (IntKind.u64.wrap x.Field) 1 = some ⟨((o ++ encN 1 x.Kind) ++ encN 1 x.Port) ++ encN 1 x.Field⟩ := w1 _ ⟨_⟩ (by dsimp only; simp only [encN, List.length_append, beB_length]; omega)
    have e4 : putW ⟨((o ++ encN 1 x.Kind) ++ encN 1 x.Port) ++ encN 1 x.Field⟩ x.Value 8 = some ⟨(((o ++ encN 1 x.Kind) ++ encN 1 x.Port) ++ encN 1 x.Field) ++ beB x.Value 8⟩ := w8 _ ⟨_⟩ (by dsimp only; simp only [encN, List.length_append, beB_length]; omega)
    rw [code_writer_acts_l0s, e1, Option.bind_some, e2, Option.bind_some, e3, Option.bind_some, e4, Option.bind_some, acts_l0s_wr l _ (by simp only [encN, List.length_append, beB_length]; omega)]
    simp only [List.flatMap_cons, encA, List.append_assoc]
theorem acts_wr (l : List Act) : WrS (fun w => code_writer_acts_raw w l) (encAs l) := by
  intro w hr
  dsimp only
  simp only [encAs, encL, List.length_append] at hr
  have hn : (encN 1 (l.length : Int)).length = 1 := beB_length _ _
  have e1 : putW w (IntKind.u64.wrap (l.length : Int)) 1 = some ⟨w.b ++ encN 1 (l.length : Int)⟩ := w1 _ w (by rw [beB_length]; omega)
  rw [code_writer_acts_raw, List.length_map, e1, Option.bind_some, acts_l0s_wr l _ (by rw [List.length_append]; omega), Option.bind_some]
  simp only [encAs, encL, List.append_assoc]
theorem match_wr {c : Cube} (hc : okC c) (prio idle hard owner : Int) : WrS (fun w => code_writer_match_raw w c prio idle hard owner) (encC c ++ (encN 2 prio ++ (encN 4 idle ++ (encN 4 hard ++ encN 1 owner)))) := by
  have h := wr_bind (head_wr hc.1.1) (wr_bind (head_wr hc.2.1) (wr_bind (w2 (IntKind.u64.wrap prio)) (wr_bind (w4 (IntKind.u64.wrap idle)) (wr_bind (w4 (IntKind.u64.wrap hard)) (wr_bind (w1 (IntKind.u64.wrap owner)) wr_done)))))
  simp only [List.append_nil] at h
  intro w hr
  have := h w (by simp only [encC, encN, List.length_append] at hr ⊢; omega)
  simp only [encC, encN, List.append_assoc] at this ⊢
  exact this
theorem bifWrap (b : Bool) : IntKind.u64.wrap (if b = true then (1 : Int) else 0) = (bif b then 1 else 0) := by cases b <;> rfl
theorem mod_wr {m : Mod} (hc : okC m.Match) : WrS (fun w => code_writer_mod_raw w m) (encM m (if m.Check then 1 else 0)) := by
  have h := wr_bind (w1 (IntKind.u64.wrap m.Kind)) (wr_bind (match_wr hc m.Prio m.Idle m.Hard m.Owner) (wr_bind (w1 (bif m.Check then 1 else 0)) (wr_bind (acts_wr m.Acts) wr_done)))
  simp only [List.append_nil] at h
  intro w hr
  have := h w (by simp only [encM, encN, bifWrap, List.length_append] at hr ⊢; omega)
  simp only [encM, encN, bifWrap, List.append_assoc] at this ⊢
  exact this
theorem rules_l1s_wr (x : Rule) (o : List Int) (hr : o.length + 24 + 8 ≤ roomW) : code_writer_rules_l1s x 3 0 o = some (o ++ (encN 8 x.Hits ++ (encN 8 x.Quiet ++ encN 8 x.Age))) := by
  have e1 : putW { b := o } (IntKind.u64.wrap x.Hits) 8 = some ⟨o ++ encN 8 x.Hits⟩ := w8 _ ⟨o⟩ (by dsimp only; rw [beB_length]; omega)
  have e2 : putW ⟨o ++ encN 8 x.Hits⟩ (IntKind.u64.wrap x.Quiet) 8 = some ⟨(o ++ encN 8 x.Hits) ++ encN 8 x.Quiet⟩ := w8 _ ⟨_⟩ (by dsimp only; simp only [encN, List.length_append, beB_length]; omega)
  have e3 : putW ⟨(o ++ encN 8 x.Hits) ++ encN 8 x.Quiet⟩ (IntKind.u64.wrap x.Age) 8 = some ⟨((o ++ encN 8 x.Hits) ++ encN 8 x.Quiet) ++ encN 8 x.Age⟩ := w8 _ ⟨_⟩ (by dsimp only; simp only [encN, List.length_append, beB_length]; omega)
  rw [code_writer_rules_l1s, show [x.Hits, x.Quiet, x.Age].getD 0 0 = x.Hits from rfl, e1, Option.bind_some, code_writer_rules_l1s, show [x.Hits, x.Quiet, x.Age].getD (0 + 1) 0 = x.Quiet from rfl, e2, Option.bind_some, code_writer_rules_l1s, show [x.Hits, x.Quiet, x.Age].getD (0 + 1 + 1) 0 = x.Age from rfl, e3, Option.bind_some, code_writer_rules_l1s]
  simp only [List.append_assoc]
theorem encN_length (k : Nat) (n : Int) : (encN k n).length = k := beB_length _ _
theorem rules_l0s_wr : ∀ (l : List Rule) (o : List Int), (∀ r ∈ l, okC r.Match) → o.length + (l.flatMap encR).length + 8 ≤ roomW → code_writer_rules_l0s l o = some (o ++ l.flatMap encR)
  | [], o, hc, hr => by rw [code_writer_rules_l0s, List.flatMap_nil, List.append_nil]
  | x :: l, o, hc, hr => by
    rw [List.flatMap_cons, List.length_append] at hr
    have hx : (encR x).length = (encC x.Match).length + (2 + (4 + (4 + (1 + (8 + (8 + (8 + (encAs x.Acts).length))))))) := by simp only [encR, List.length_append, encN_length]
    have e1 := match_wr (hc x List.mem_cons_self) x.Prio x.Idle x.Hard x.Owner ⟨o⟩ (by simp only [List.length_append, encN_length]; omega)
    dsimp only at e1
    generalize hz : encC x.Match ++ (encN 2 x.Prio ++ (encN 4 x.Idle ++ (encN 4 x.Hard ++ encN 1 x.Owner))) = z at e1
    have hzl : z.length = (encC x.Match).length + (2 + (4 + (4 + 1))) := by rw [← hz]; simp only [List.length_append, encN_length]
    have e2 := rules_l1s_wr x (o ++ z) (by rw [List.length_append]; omega)
    have e3 := acts_wr x.Acts ⟨o ++ z ++ (encN 8 x.Hits ++ (encN 8 x.Quiet ++ encN 8 x.Age))⟩ (by simp only [List.length_append, encN_length]; omega)
    dsimp only at e3
    rw [code_writer_rules_l0s, e1, Option.bind_some, e2, Option.bind_some, e3, Option.bind_some, rules_l0s_wr l _ (fun r hr => hc r (List.mem_cons_of_mem _ hr)) (by simp only [List.length_append, encN_length]; omega), ← hz]
    simp only [List.flatMap_cons, encR, List.append_assoc]
theorem rules_wr {l : List Rule} (hc : ∀ r ∈ l, okC r.Match) : WrS (fun w => code_writer_rules_raw w l) (encRs l) := by
  intro w hr
  dsimp only
  simp only [encRs, encL, List.length_append] at hr
  have hn := encN_length 2 (l.length : Int)
  have e1 : putW w (IntKind.u64.wrap (l.length : Int)) 2 = some ⟨w.b ++ encN 2 (l.length : Int)⟩ := w2 _ w (by rw [beB_length]; omega)
  rw [code_writer_rules_raw, List.length_map, e1, Option.bind_some, rules_l0s_wr l _ hc (by rw [List.length_append]; omega), Option.bind_some]
  simp only [encRs, encL, List.append_assoc]
theorem code_Encode_ok {m : Msg} (w : Msg.wf m) (h : code_Sound m = true) (hl : m.Rules.length ≤ 65535) (hn : (encMsg m).length + 8 ≤ roomW) : code_Encode_raw m = some (encMsg m, 0) := by
  obtain ⟨v1, v2, v3, v4, v5, v6, v7⟩ := w
  have hk := encN_length 1 m.Kind
  have ht := encN_length 4 m.Txn
  simp only [encMsg, List.length_append] at hn
  have e1 : putW ⟨[]⟩ (IntKind.u64.wrap m.Kind) 1 = some ⟨encN 1 m.Kind⟩ := w1 _ ⟨[]⟩ (by dsimp only; rw [beB_length, List.length_nil]; omega)
  have e2 : putW ⟨encN 1 m.Kind⟩ (IntKind.u64.wrap m.Txn) 4 = some ⟨encN 1 m.Kind ++ encN 4 m.Txn⟩ := w4 _ ⟨_⟩ (by dsimp only; rw [beB_length]; omega)
  rw [code_Encode_raw, h, List.length_map, decide_eq_false (by omega), Bool.not_true, Bool.or_self, cond_false, e1, Option.bind_some, e2, Option.bind_some]
  have hb : ∀ (G : Writer → Option Writer), WrS G (encBody m) → ∃ w, G ⟨encN 1 m.Kind ++ encN 4 m.Txn⟩ = some w ∧ w.b = encMsg m := fun G hG => ⟨_, hG _ (by dsimp only; rw [List.length_append]; omega), by simp only [encMsg, List.append_assoc]⟩
  have eb : encBody m = encBody m := rfl
  unfold encBody at hb
  by_cases h1 : m.Kind = 1
  · rw [if_pos h1] at hb
    obtain ⟨w', g1, g2⟩ := hb _ (mod_wr (okC_of v4.2.1))
    have ek : (m.Kind == 1) = true := by simpa using h1
    rw [ek, cond_true, g1, Option.bind_some, g2]
  · rw [if_neg h1] at hb
    rw [ne_beq h1, cond_false]
    by_cases h6 : m.Kind = 6
    · rw [if_pos h6] at hb
      obtain ⟨w', g1, g2⟩ := hb _ (w1 (IntKind.u64.wrap m.E))
      have ek : (m.Kind == 6) = true := by simpa using h6
      rw [ek, cond_true, g1, Option.bind_some, g2]
    · rw [if_neg h6] at hb
      rw [ne_beq h6, cond_false]
      by_cases h8 : m.Kind = 8
      · rw [if_pos h8] at hb
        obtain ⟨w', g1, g2⟩ := hb _ (wr_bind (w1 (IntKind.u64.wrap m.Port)) (head_wr v6.1))
        obtain ⟨w2', g3, g4⟩ := Option.bind_eq_some_iff.1 g1
        have ek : (m.Kind == 8) = true := by simpa using h8
        rw [ek, cond_true, g3, Option.bind_some, g4, Option.bind_some, g2]
      · rw [if_neg h8] at hb
        rw [ne_beq h8, cond_false]
        by_cases h9 : m.Kind = 9 ∨ m.Kind = 10
        · rw [if_pos h9] at hb
          obtain ⟨w', g1, g2⟩ := hb _ (rules_wr fun r hr => okC_of (v7 r hr).1)
          have e9 : (bif (m.Kind == 9) then (m.Kind == 9) else (m.Kind == 10)) = true := by rcases h9 with h | h <;> rw [h] <;> rfl
          rw [e9, cond_true, g1, Option.bind_some, g2]
        · rw [if_neg h9] at hb
          have e9 : (bif (m.Kind == 9) then (m.Kind == 9) else (m.Kind == 10)) = false := by
            rw [ne_beq (fun h => h9 (.inl h)), ne_beq (fun h => h9 (.inr h))]
            rfl
          obtain ⟨w', g1, g2⟩ := hb _ wr_done
          injection g1 with g1
          rw [e9, cond_false]
          rw [g1, g2]
theorem code_Encode_no {m : Msg} (h : code_Sound m = false) : code_Encode_raw m = some ([], 2) := by
  rw [code_Encode_raw, h, Bool.not_false, Bool.true_or, cond_true]
theorem flat_len {α : Type} (e : α → List Int) (K : Nat) : ∀ (l : List α), (∀ a ∈ l, (e a).length ≤ K) → (l.flatMap e).length ≤ l.length * K
  | [], _ => by simp
  | x :: l, h => by
    rw [List.flatMap_cons, List.length_append, List.length_cons, Nat.succ_mul]
    have h1 := h x List.mem_cons_self
    have h2 := flat_len e K l (fun a ha => h a (List.mem_cons_of_mem _ ha))
    omega
theorem encH_len {h : List Int} (v : h.length = 12) : (encH h).length ≤ 96 := by
  have := flat_len (fun n => beB n 8) 8 h (fun a _ => by rw [beB_length]; exact Nat.le_refl _)
  rw [v] at this
  exact this
theorem encAs_len {l : List Act} (v : okAs l) : (encAs l).length ≤ 3000 := by
  have := flat_len encA 11 l (fun a _ => by simp only [encA, encN_length, beB_length, List.length_append]; omega)
  have h2 : l.length < 256 := v.1
  simp only [encAs, encL, List.length_append, encN_length]
  omega
theorem encC_len {c : Cube} (v : okC c) : (encC c).length ≤ 192 := by
  have h1 := encH_len v.1.1
  have h2 := encH_len v.2.1
  simp only [encC, List.length_append]
  omega
theorem encMsg_len {m : Msg} (w : Msg.wf m) (h : code_Sound m = true) (hl : m.Rules.length ≤ 65535) : (encMsg m).length ≤ 1000000000 := by
  obtain ⟨hT, hO⟩ := (sound_iff m).1 h
  have w0 := w
  obtain ⟨w1, w2, w3, w4, w5, w6, w7⟩ := w
  have key : (encBody m).length ≤ 999999000 := by
    unfold encBody
    cases hO with
    | mod k e hs =>
      obtain ⟨v1, v2, v3, v4, v5, v6, v7, v8, v9⟩ := okM_of w4 hs
      have h1 := encC_len v2
      have h2 := encAs_len v8
      rw [if_pos k]
      simp only [encM, List.length_append, encN_length]
      omega
    | err k e h1 h2 => rw [if_neg (by omega), if_pos k, encN_length]; omega
    | pkt k e h1 h2 h3 =>
      have := encH_len w6.1
      rw [if_neg (by omega), if_neg (by omega), if_pos k, List.length_append, encN_length]
      omega
    | rul k e h1 h2 =>
      have v := msg_okRs w0 h1 hl
      have := flat_len encR 4000 m.Rules (fun a ha => by
        have h1 := encC_len (v.2 a ha).1
        have h2 := encAs_len (v.2 a ha).2.2.2.2.2.2.2.2
        simp only [encR, List.length_append, encN_length]
        omega)
      rw [if_neg (by omega), if_neg (by omega), if_neg (by omega), if_pos k]
      simp only [encRs, encL, List.length_append, encN_length]
      omega
    | bare n1 n6 n8 n9 n10 e h1 h2 => rw [if_neg n1, if_neg n6, if_neg n8, if_neg (by omega)]; exact Nat.zero_le _
  simp only [encMsg, List.length_append, encN_length]
  omega

end Go.Proofs.Ythfidfjogecnpaa

set_option linter.unusedVariables false
set_option linter.unusedSimpArgs false
set_option maxRecDepth 100000
set_option maxHeartbeats 4000000
namespace Go.Proofs.Ythfidfjogecnpaa
open Go.Sh
/-! ### the reference's words for messages -/
theorem refMod_eq {m : Mod} (w : Mod.wf m) : podestaref04_Mod m = mods_Sound m := by
  obtain ⟨w1, w2, w3, w4, w5, w6, w7, _⟩ := w
  rw [podestaref04_Mod, mods_Sound, ← cube_Sound_eq w2, refActs_eq, ← act_Sound_eq (Act.wf_val w4)]
  have e1 : ∀ a b, podestaref04_span a b = mods_span a b := fun _ _ => rfl
  simp only [e1, List.length_map]
  cases cube_Sound m.Match with
  | false => simp
  | true =>
    cases act_Sound m.Acts with
    | false => simp
    | true =>
      cases hp : mods_span m.Prio 65535 with
      | false => simp
      | true =>
        cases ho : mods_span m.Owner 255 with
        | false => simp
        | true =>
          simp only [Bool.not_true, Bool.or_false, cond_false]
          have hk : m.Kind < 1 ∨ m.Kind = 1 ∨ m.Kind = 2 ∨ m.Kind = 3 ∨ m.Kind = 4 ∨ m.Kind = 5 ∨ m.Kind > 5 := by omega
          rcases hk with h | h | h | h | h | h | h
          · rw [decide_eq_true h]
            simp [show ¬ m.Kind = 1 by omega, show ¬ m.Kind = 2 by omega, show ¬ m.Kind = 3 by omega, show ¬ m.Kind = 4 by omega, show ¬ m.Kind = 5 by omega]
          · simp only [h, mods_span, mods_plain]
            cases hc : m.Check <;> by_cases hA : m.Acts = [] <;> (rw [Bool.eq_iff_iff]; simp [hA]; try omega)
          · simp only [h, mods_span, mods_plain]
            cases hc : m.Check <;> by_cases hA : m.Acts = [] <;> (rw [Bool.eq_iff_iff]; simp [hA]; try omega)
          · simp only [h, mods_span, mods_plain]
            cases hc : m.Check <;> by_cases hA : m.Acts = [] <;> (rw [Bool.eq_iff_iff]; simp [hA]; try omega)
          · simp only [h, mods_span, mods_plain]
            cases hc : m.Check <;> by_cases hA : m.Acts = [] <;> (rw [Bool.eq_iff_iff]; simp [hA]; try omega)
          · simp only [h, mods_span, mods_plain]
            cases hc : m.Check <;> by_cases hA : m.Acts = [] <;> (rw [Bool.eq_iff_iff]; simp [hA]; try omega)
          · rw [decide_eq_true h]
            simp [show ¬ m.Kind = 1 by omega, show ¬ m.Kind = 2 by omega, show ¬ m.Kind = 3 by omega, show ¬ m.Kind = 4 by omega, show ¬ m.Kind = 5 by omega]
theorem refMsg_eq {m : Msg} (w : Msg.wf m) (hl : m.Rules.length ≤ 65535) : podestaref09_Msg_raw m = some (code_Sound m) := by
  obtain ⟨w1, w2, w3, w4, w5, w6, w7⟩ := w
  rw [podestaref09_Msg_raw, code_Sound]
  by_cases ht : m.Txn < 0 ∨ m.Txn > 4294967295
  · have e1 : (decide (m.Txn < 0) || decide (m.Txn > 4294967295)) = true := by simpa using ht
    have e2 : (decide (m.Txn ≥ 0) && decide (m.Txn ≤ 4294967295)) = false := by simp; omega
    rw [e1, e2, cond_true, Bool.false_and]
  · have e1 : (decide (m.Txn < 0) || decide (m.Txn > 4294967295)) = false := by simp; omega
    have e2 : (decide (m.Txn ≥ 0) && decide (m.Txn ≤ 4294967295)) = true := by simp; omega
    rw [e1, e2, cond_false, Bool.true_and, refMod_eq w4, ref_SameMods_eq, ← head_Sound_eq w6, code_body]
    simp only [code_empty, mods_Same_eq, List.length_map, beq_self_eq_true, Bool.and_true, List.length_nil]
    by_cases h1 : m.Kind = 1
    · simp only [h1, beq_self_eq_true, cond_true]
      congr 1
      rw [Bool.eq_iff_iff]
      simp only [Bool.and_eq_true]
      constructor <;> intro h <;> simp_all
    · rw [ne_beq h1, cond_false, cond_false]
      by_cases h6 : m.Kind = 6
      · simp only [h6, beq_self_eq_true, cond_true]
        congr 1
        rw [Bool.eq_iff_iff]
        simp only [Bool.and_eq_true]
        constructor <;> intro h <;> simp_all
      · rw [ne_beq h6, cond_false, cond_false]
        by_cases h8 : m.Kind = 8
        · simp only [h8, beq_self_eq_true, cond_true]
          congr 1
          rw [Bool.eq_iff_iff]
          simp only [Bool.and_eq_true]
          constructor <;> intro h <;> simp_all
        · rw [ne_beq h8, cond_false, cond_false]
          by_cases h9 : m.Kind = 9
          · simp only [h9, beq_self_eq_true, cond_true]
            have e3 : ((9 : Int) == 10) = false := rfl
            rw [e3, Bool.false_or]
            by_cases hn : m.Rules.length = 1
            · obtain ⟨x, hx⟩ := List.length_eq_one_iff.1 hn
              have hxw : Rule.wf x := w7 x (by rw [hx]; simp)
              have ht : tableR m.Rules = podestaref04_Rule x := by
                rw [hx, ← rule_Sound_eq hxw, tableR, tableF_cons]
                simp [befO, tableF]
              rw [ht]
              have hi : ixO m.Rules 0 = some x := by rw [hx]; rfl
              rw [hi, Option.bind_some]
              cases hq : (((((m.Mod == { Kind := 0, Match := { Value := [0, 0, 0, 0, 0, 0, 0, 0, 0, 0, 0, 0], Care := [0, 0, 0, 0, 0, 0, 0, 0, 0, 0, 0, 0] }, Prio := 0, Acts := [], Idle := 0, Hard := 0, Owner := 0, Check := false }) && m.E == 0) && (m.Port == 0 && m.Head == [0, 0, 0, 0, 0, 0, 0, 0, 0, 0, 0, 0])) && ((m.Rules.length : Nat) : Int) == 1)) with
              | true =>
                rw [cond_true]
                congr 1
                rw [Bool.eq_iff_iff]
                simp only [Bool.and_eq_true] at hq ⊢
                constructor <;> intro h <;> simp_all
              | false =>
                rw [cond_false]
                congr 1
                rw [Bool.eq_iff_iff]
                rw [hn] at hq ⊢
                simp only [Bool.and_eq_true, Bool.and_eq_false_iff] at hq ⊢
                constructor
                · intro h; cases h
                · intro h
                  simp_all
            · have e4 : (((m.Rules.length : Nat) : Int) == 1) = false := by
                apply ne_beq
                omega
              rw [e4, Bool.and_false, Bool.and_false, cond_false]
          · rw [ne_beq h9, cond_false, cond_false]
            by_cases h10 : m.Kind = 10
            · simp only [h10, beq_self_eq_true, cond_true, Bool.true_or, Bool.and_true]
              rw [decide_eq_true (by omega : ((m.Rules.length : Nat) : Int) ≤ 65535), Bool.and_true, refTable_raw_eq m.Rules w7 (by omega), Option.bind_some]
              cases hq : ((((m.Mod == { Kind := 0, Match := { Value := [0, 0, 0, 0, 0, 0, 0, 0, 0, 0, 0, 0], Care := [0, 0, 0, 0, 0, 0, 0, 0, 0, 0, 0, 0] }, Prio := 0, Acts := [], Idle := 0, Hard := 0, Owner := 0, Check := false }) && m.E == 0) && (m.Port == 0 && m.Head == [0, 0, 0, 0, 0, 0, 0, 0, 0, 0, 0, 0]))) with
              | true =>
                rw [cond_true]
                congr 1
                rw [Bool.eq_iff_iff]
                simp only [Bool.and_eq_true] at hq ⊢
                constructor <;> intro h <;> simp_all
              | false =>
                rw [cond_false]
                congr 1
                rw [Bool.eq_iff_iff]
                simp only [Bool.and_eq_true, Bool.and_eq_false_iff] at hq ⊢
                constructor
                · intro h; cases h
                · intro h
                  simp_all
            · rw [ne_beq h10, cond_false, cond_false]
              congr 1
              rw [Bool.eq_iff_iff]
              simp only [Bool.and_eq_true, decide_eq_true_eq, beq_iff_eq]
              constructor
              · rintro ⟨⟨⟨⟨⟨h1', h2'⟩, h3', h4'⟩, h5'⟩, h6'⟩, h7'⟩
                exact ⟨⟨⟨⟨⟨⟨h2', h1'⟩, h3'⟩, h4'⟩, h5'⟩, by omega⟩, by omega⟩
              · rintro ⟨⟨⟨⟨⟨⟨h2', h1'⟩, h3'⟩, h4'⟩, h5'⟩, h6'⟩, h7'⟩
                exact ⟨⟨⟨⟨⟨h1', h2'⟩, h3', h4'⟩, h5'⟩, by omega⟩, by omega⟩
theorem okH_arr {h : List Int} (v : okH h) : arrW .u64 12 h := ⟨v.1, fun a ha => u64W.2 (by
  have := v.2 a ha
  rw [p256_8] at this
  omega)⟩
theorem okN_i64 {k : Nat} (hk : k ≤ 4) {n : Int} (h : okN k n) : intW .i64 n := i64W.2 (by
  have hp : 256 ^ k ≤ 256 ^ 4 := Nat.pow_le_pow_right (by decide) hk
  obtain ⟨h1, h2⟩ := h
  have : (256 : Nat) ^ 4 = 4294967296 := by decide
  omega)
theorem okA_wf {a : Act} (v : okA a) : Act.wf a := ⟨okN_i64 (by decide) v.1, okN_i64 (by decide) v.2.1, okN_i64 (by decide) v.2.2.1, u64W.2 (by
  have := v.2.2.2
  rw [okN, p256_8] at this
  omega)⟩
theorem okC_wf {c : Cube} (v : okC c) : Cube.wf c := ⟨okH_arr v.1, okH_arr v.2⟩
theorem okR_wf {r : Rule} (v : okR r) : Rule.wf r := by
  obtain ⟨v1, v2, v3, v4, v5, v6, v7, v8, v9⟩ := v
  exact ⟨okC_wf v1, okN_i64 (by decide) v2, fun y hy => okA_wf (v9.2 y hy), okN_i64 (by decide) v3, okN_i64 (by decide) v4, okN_i64 (by decide) v5, v6, v7, v8⟩
theorem okM_wf {m : Mod} {q : Int} (v : okM m q) : Mod.wf m := by
  obtain ⟨v1, v2, v3, v4, v5, v6, v7, v8, v9⟩ := v
  exact ⟨okN_i64 (by decide) v1, okC_wf v2, okN_i64 (by decide) v3, fun y hy => okA_wf (v8.2 y hy), okN_i64 (by decide) v4, okN_i64 (by decide) v5, okN_i64 (by decide) v6, trivial⟩
theorem i64_0 : intW .i64 0 := i64W.2 (by decide)
theorem zeros_wf : arrW .u64 12 [0, 0, 0, 0, 0, 0, 0, 0, 0, 0, 0, 0] := ⟨rfl, fun a ha => by
  have : a = 0 := by simpa using ha
  subst this
  exact u64W.2 (by decide)⟩
theorem mod0_wf : Mod.wf mod0 := ⟨i64_0, ⟨zeros_wf, zeros_wf⟩, i64_0, (fun y hy => by cases hy), i64_0, i64_0, i64_0, trivial⟩
/-- what was read is as its types say -/
theorem msg_wf {b r : List Int} {m : Msg} {ok : Bool} (hb : Bytes b) (h0 : msgP b = some ((m, ok), r)) : Msg.wf m ∧ m.Rules.length ≤ 65535 := by
  obtain ⟨k, s, h1, h⟩ := bindP_some (show bindP (numP 1) (fun k => bindP (numP 4) fun id => bodyP k id) b = _ from h0)
  obtain ⟨id, s2, h2, h5⟩ := bindP_some h
  clear h0 h
  obtain ⟨rfl, v1⟩ := (cod_num 1 (by decide)).dec _ _ _ hb h1
  have hb := hb.right
  obtain ⟨rfl, v2⟩ := (cod_num 4 (by decide)).dec _ _ _ hb h2
  have hb := hb.right
  clear h1 h2
  have hk := okN_i64 (k := 1) (by decide) v1
  have hi := okN_i64 (k := 4) (by decide) v2
  replace h5 : bodyP k id s2 = some ((m, ok), r) := h5
  unfold bodyP at h5
  split at h5
  · obtain ⟨x, s, h3, h4⟩ := bindP_some h5
    obtain ⟨e, _⟩ := pureP_some h4
    injection e with e1 e2
    have v := (cod_mod.dec _ _ _ hb h3).2
    subst e1
    exact ⟨⟨hk, hi, i64_0, okM_wf v, i64_0, zeros_wf, fun y hy => by cases hy⟩, by simp [msg0]⟩
  · split at h5
    · obtain ⟨x, s, h3, h4⟩ := bindP_some h5
      obtain ⟨e, _⟩ := pureP_some h4
      injection e with e1 e2
      have v := ((cod_num 1 (by decide)).dec _ _ _ hb h3).2
      subst e1
      exact ⟨⟨hk, hi, okN_i64 (k := 1) (by decide) v, mod0_wf, i64_0, zeros_wf, fun y hy => by cases hy⟩, by simp [msg0]⟩
    · split at h5
      · obtain ⟨x, s, h3, h4⟩ := bindP_some h5
        obtain ⟨x2, s2, h4, h6⟩ := bindP_some h4
        obtain ⟨e, _⟩ := pureP_some h6
        injection e with e1 e2
        obtain ⟨rfl, v⟩ := (cod_num 1 (by decide)).dec _ _ _ hb h3
        have v3 := (cod_head.dec _ _ _ hb.right h4).2
        subst e1
        exact ⟨⟨hk, hi, i64_0, mod0_wf, okN_i64 (k := 1) (by decide) v, okH_arr v3, fun y hy => by cases hy⟩, by simp [msg0]⟩
      · split at h5
        · obtain ⟨x, s, h3, h4⟩ := bindP_some h5
          obtain ⟨e, _⟩ := pureP_some h4
          injection e with e1 e2
          have v := (cod_rules.dec _ _ _ hb h3).2
          subst e1
          refine ⟨⟨hk, hi, i64_0, mod0_wf, i64_0, zeros_wf, fun y hy => okR_wf (v.2 y hy)⟩, ?_⟩
          have := v.1
          have e : (256 : Nat) ^ 2 = 65536 := by decide
          show x.length ≤ 65535
          omega
        · obtain ⟨e, _⟩ := pureP_some h5
          injection e with e1 e2
          subst e1
          exact ⟨⟨hk, hi, i64_0, mod0_wf, i64_0, zeros_wf, fun y hy => by cases hy⟩, by simp [msg0]⟩

end Go.Proofs.Ythfidfjogecnpaa

set_option linter.unusedVariables false
set_option linter.unusedSimpArgs false
set_option maxRecDepth 100000
set_option maxHeartbeats 4000000
namespace Go.Proofs.Ythfidfjogecnpaa
open Go.Sh
/-! ### the reference's Encode -/
theorem beN_snoc (n : Nat) : ∀ k, beN n (k + 1) = beN (n / 256) k ++ [((n % 256 : Nat) : Int)]
  | 0 => by simp [beN]
  | k + 1 => by
    rw [beN, beN_snoc n k, beN, Nat.pow_succ', ← Nat.div_div_eq_div_mul]
    rfl
theorem Num_l0_eq : ∀ (j fuel n : Nat) (out : List Int), j < fuel → j ≤ out.length → out.length ≤ 8 → n < 18446744073709551616 → podestaref09_Num_l0 fuel (n : Int) ((j : Int) - 1) out = some (beN n j ++ out.drop j)
  | j, 0, n, out, hf, hj, hl, hn => by omega
  | 0, f + 1, n, out, hf, hj, hl, hn => by
    rw [podestaref09_Num_l0, decide_eq_false (by omega), cond_false]
    rfl
  | j + 1, f + 1, n, out, hf, hj, hl, hn => by
    have e0 : ((j + 1 : Nat) : Int) - 1 = (j : Int) := by omega
    have e1 : IntKind.i64.wrap ((j : Int) - 1) = (j : Int) - 1 := wrap_eq (by omega) (by omega)
    have e2 : IntKind.u64.wrap (Int.tdiv (n : Int) 256) = ((n / 256 : Nat) : Int) := by
      rw [wrap_u64_mod, Int.tdiv_eq_ediv_of_nonneg (by omega)]
      omega
    have e3 : IntKind.u8.wrap (Int.tmod (n : Int) 256) = ((n % 256 : Nat) : Int) := by
      rw [wrap_u8_mod, Int.tmod_eq_emod_of_nonneg (by omega)]
      omega
    rw [podestaref09_Num_l0, e0, decide_eq_true (by omega), cond_true, ixO_lt (by omega), Option.bind_some, e1, e2, e3, Int.toNat_natCast, Num_l0_eq j f (n / 256) _ (by omega) (by rw [List.length_set]; omega) (by rw [List.length_set]; exact hl) (by omega), beN_snoc, List.append_assoc]
    congr 2
    rw [List.drop_eq_getElem_cons (by rw [List.length_set]; omega), List.getElem_set_self, List.drop_set_of_lt (by omega)]
    rfl
theorem Num_eq {n : Int} (hn : 0 ≤ n ∧ n < 18446744073709551616) (k : Nat) (hk : k ≤ 8) : podestaref09_Num_raw 20 n (k : Int) = some (beB n k) := by
  obtain ⟨m, rfl⟩ := Int.eq_ofNat_of_zero_le hn.1
  have e1 : IntKind.i64.wrap ((k : Int) - 1) = (k : Int) - 1 := wrap_eq (by omega) (by omega)
  rw [podestaref09_Num_raw, reqO_eq (by rw [decide_eq_true (by omega), decide_eq_true (by omega)]; rfl), e1, Int.toNat_natCast, Num_l0_eq k 20 m _ (by omega) (by simp) (by simpa using hk) (by omega), Option.bind_some, List.drop_eq_nil_of_le (by simp), List.append_nil, beB_eq]
theorem wrapU_in (n : Int) : 0 ≤ IntKind.u64.wrap n ∧ IntKind.u64.wrap n < 18446744073709551616 := by
  rw [wrap_u64_mod]
  omega
theorem enc1 (n : Int) : encN 1 n = [IntKind.u8.wrap n] := by
  have h : Int.fdiv (IntKind.u64.wrap n) (2 ^ (8 * 0)) = IntKind.u64.wrap n := by simp
  rw [encN, beB, beB, h, wrap_u8_mod, wrap_u8_mod, wrap_u64_mod]
  congr 1
  omega
theorem N2 (n : Int) : podestaref09_Num_raw 20 (IntKind.u64.wrap n) 2 = some (encN 2 n) := Num_eq (wrapU_in n) 2 (by decide)
theorem N4 (n : Int) : podestaref09_Num_raw 20 (IntKind.u64.wrap n) 4 = some (encN 4 n) := Num_eq (wrapU_in n) 4 (by decide)
theorem N8 (n : Int) : podestaref09_Num_raw 20 (IntKind.u64.wrap n) 8 = some (encN 8 n) := Num_eq (wrapU_in n) 8 (by decide)
theorem N8v {n : Int} (h : okN 8 n) : podestaref09_Num_raw 20 n 8 = some (beB n 8) := Num_eq (by rw [okN, p256_8] at h; exact h) 8 (by decide)
theorem fit1 {α : Type} {n : Nat} {r : Option α} (h : n ≤ 140737488355328) : fitO n 1 r = r := fitO_eq (by omega)
theorem heads_l0s_eq (c : Cube) (hc : okH c.Value) : ∀ (n t : Nat) (o : List Int), t + n = 12 → o.length + 8 * n ≤ 1000000 → podestaref09_heads_l0s c n t o = some (o ++ encH (c.Value.drop t))
  | 0, t, o, hl, hr => by rw [podestaref09_heads_l0s, List.drop_eq_nil_of_le (by rw [hc.1]; omega), encH, List.flatMap_nil, List.append_nil]
  | n + 1, t, o, hl, hr => by
    have hlt : t < c.Value.length := by rw [hc.1]; omega
    have e : c.Value.getD t 0 = c.Value[t] := by rw [List.getD_eq_getElem?_getD, List.getElem?_eq_getElem hlt]; rfl
    have hb := beB_length c.Value[t] 8
    rw [podestaref09_heads_l0s, e, N8v (hc.2 _ (List.getElem_mem hlt)), Option.bind_some, fit1 (by omega), heads_l0s_eq c hc n (t + 1) _ (by omega) (by rw [List.length_append]; omega), List.drop_eq_getElem_cons hlt, encH, encH, List.flatMap_cons, List.append_assoc]
theorem heads_l1s_eq (c : Cube) (hc : okH c.Care) : ∀ (n t : Nat) (o : List Int), t + n = 12 → o.length + 8 * n ≤ 1000000 → podestaref09_heads_l1s c n t o = some (o ++ encH (c.Care.drop t))
  | 0, t, o, hl, hr => by rw [podestaref09_heads_l1s, List.drop_eq_nil_of_le (by rw [hc.1]; omega), encH, List.flatMap_nil, List.append_nil]
  | n + 1, t, o, hl, hr => by
    have hlt : t < c.Care.length := by rw [hc.1]; omega
    have e : c.Care.getD t 0 = c.Care[t] := by rw [List.getD_eq_getElem?_getD, List.getElem?_eq_getElem hlt]; rfl
    have hb := beB_length c.Care[t] 8
    rw [podestaref09_heads_l1s, e, N8v (hc.2 _ (List.getElem_mem hlt)), Option.bind_some, fit1 (by omega), heads_l1s_eq c hc n (t + 1) _ (by omega) (by rw [List.length_append]; omega), List.drop_eq_getElem_cons hlt, encH, encH, List.flatMap_cons, List.append_assoc]
theorem heads_eq {c : Cube} (hc : okC c) (prio idle hard owner : Int) : podestaref09_heads_raw c prio idle hard owner = some (encC c ++ (encN 2 prio ++ (encN 4 idle ++ (encN 4 hard ++ encN 1 owner)))) := by
  have h1 := encH_len hc.1.1
  have h2 := encH_len hc.2.1
  have l2 := encN_length 2 prio
  have l3 := encN_length 4 idle
  have l4 := encN_length 4 hard
  rw [podestaref09_heads_raw, heads_l0s_eq c hc.1 12 0 [] rfl (by decide), Option.bind_some, List.nil_append, List.drop_zero, heads_l1s_eq c hc.2 12 0 _ rfl (by omega), Option.bind_some, List.drop_zero, N2, Option.bind_some, fit1 (by simp only [List.length_append]; omega), N4, Option.bind_some, fit1 (by simp only [List.length_append]; omega),
    N4, Option.bind_some, fit1 (by simp only [List.length_append]; omega), fit1 (by simp only [List.length_append, List.length_singleton]; omega), enc1]
  simp only [encC, List.append_assoc]
theorem racts_l0s_eq : ∀ (l : List Act) (o : List Int), (∀ a ∈ l, okA a) → o.length + (l.flatMap encA).length ≤ 1000000 → podestaref09_acts_l0s l o = some (o ++ l.flatMap encA)
  | [], o, hc, hr => by rw [podestaref09_acts_l0s, List.flatMap_nil, List.append_nil]
  | x :: l, o, hc, hr => by
    rw [List.flatMap_cons, List.length_append] at hr
    have hx : (encA x).length = 11 := by simp only [encA, encN, List.length_append, beB_length]
    have hb := beB_length x.Value 8
    rw [podestaref09_acts_l0s, fit1 (by simp only [List.length_cons, List.length_nil]; omega), N8v (hc x List.mem_cons_self).2.2.2, Option.bind_some, fit1 (by simp only [List.length_append, List.length_cons, List.length_nil]; omega),
      racts_l0s_eq l _ (fun a ha => hc a (List.mem_cons_of_mem _ ha)) (by simp only [List.length_append, List.length_cons, List.length_nil]; omega)]
    simp only [List.flatMap_cons, encA, enc1, List.append_assoc, List.cons_append, List.nil_append]
theorem racts_eq {l : List Act} (v : okAs l) : podestaref09_acts_raw l = some (encAs l) := by
  have h := encAs_len v
  simp only [encAs, encL, List.length_append, encN_length] at h
  rw [podestaref09_acts_raw, List.length_map, racts_l0s_eq l _ v.2 (by rw [List.length_singleton]; omega), Option.bind_some]
  simp only [encAs, encL, enc1]
theorem rhead_l0s_eq (m : Msg) (hc : okH m.Head) : ∀ (n t : Nat) (o : List Int), t + n = 12 → o.length + 8 * n ≤ 1000000 → podestaref09_Encode_l0s m n t o = some (o ++ encH (m.Head.drop t))
  | 0, t, o, hl, hr => by rw [podestaref09_Encode_l0s, List.drop_eq_nil_of_le (by rw [hc.1]; omega), encH, List.flatMap_nil, List.append_nil]
  | n + 1, t, o, hl, hr => by
    have hlt : t < m.Head.length := by rw [hc.1]; omega
    have e : m.Head.getD t 0 = m.Head[t] := by rw [List.getD_eq_getElem?_getD, List.getElem?_eq_getElem hlt]; rfl
    have hb := beB_length m.Head[t] 8
    rw [podestaref09_Encode_l0s, e, N8v (hc.2 _ (List.getElem_mem hlt)), Option.bind_some, fit1 (by omega), rhead_l0s_eq m hc n (t + 1) _ (by omega) (by rw [List.length_append]; omega), List.drop_eq_getElem_cons hlt, encH, encH, List.flatMap_cons, List.append_assoc]
theorem encR_len {r : Rule} (v : okR r) : (encR r).length ≤ 4000 := by
  have h1 := encC_len v.1
  have h2 := encAs_len v.2.2.2.2.2.2.2.2
  simp only [encR, List.length_append, encN_length]
  omega
theorem rrules_l1_eq (m : Msg) (hc : ∀ r ∈ m.Rules, okR r) (hm : m.Rules.length ≤ 65535) : ∀ (l : List Rule) (i fuel : Nat) (o : List Int), m.Rules.drop i = l → i ≤ m.Rules.length → l.length < fuel → o.length + 4000 * l.length ≤ 1000000000 → podestaref09_Encode_l1 m fuel (i : Int) o = some (o ++ l.flatMap encR)
  | l, i, 0, o, hd, hi, hf, hr => by omega
  | [], i, f + 1, o, hd, hi, hf, hr => by
    have := List.drop_eq_nil_iff.1 hd
    rw [podestaref09_Encode_l1, List.length_map, decide_eq_false (by omega), cond_false, List.flatMap_nil, List.append_nil]
  | x :: l, i, f + 1, o, hd, hi, hf, hr => by
    have hlt : i < m.Rules.length := by
      rcases Nat.lt_or_ge i m.Rules.length with h | h
      · exact h
      · rw [List.drop_eq_nil_of_le h] at hd
        cases hd
    rw [List.drop_eq_getElem_cons hlt] at hd
    injection hd with hx hd
    rw [List.length_cons] at hr hf
    have v := hc x (by rw [← hx]; exact List.getElem_mem hlt)
    have hxl := encR_len v
    have e1 : IntKind.i64.wrap ((i : Int) + 1) = ((i + 1 : Nat) : Int) := by rw [wrap_eq (by omega) (by omega)]; omega
    have l0 : (encR x).length = (encC x.Match ++ (encN 2 x.Prio ++ (encN 4 x.Idle ++ (encN 4 x.Hard ++ encN 1 x.Owner)))).length + (8 + (8 + (8 + (encAs x.Acts).length))) := by simp only [encR, List.length_append, encN_length]; omega
    have l1 := encN_length 8 x.Hits
    have l2 := encN_length 8 x.Quiet
    have l3 := encN_length 8 x.Age
    rw [podestaref09_Encode_l1, List.length_map, decide_eq_true (by omega), cond_true, ixO_lt hlt, Option.bind_some, hx, heads_eq v.1, Option.bind_some, fit1 (by omega), N8, Option.bind_some, fit1 (by rw [List.length_append]; omega), N8, Option.bind_some, fit1 (by rw [List.length_append, List.length_append]; omega), N8, Option.bind_some,
      fit1 (by rw [List.length_append, List.length_append, List.length_append]; omega), racts_eq v.2.2.2.2.2.2.2.2, Option.bind_some, fit1 (by rw [List.length_append, List.length_append, List.length_append, List.length_append]; omega), e1,
      rrules_l1_eq m hc hm l (i + 1) f _ hd (by omega) (by omega) (by rw [List.length_append, List.length_append, List.length_append, List.length_append, List.length_append]; omega)]
    simp only [List.flatMap_cons, encR, List.append_assoc]
theorem ref_Encode_ok {m : Msg} (w : Msg.wf m) (h : code_Sound m = true) (hl : m.Rules.length ≤ 65535) : podestaref09_Encode_raw 70000 m = some (encMsg m) := by
  obtain ⟨hT, hO⟩ := (sound_iff m).1 h
  have w0 := w
  obtain ⟨v1, v2, v3, v4, v5, v6, v7⟩ := w
  have lt := encN_length 4 m.Txn
  have lk := encN_length 1 m.Kind
  rw [podestaref09_Encode_raw, N4, Option.bind_some, ← enc1, fit1 (by omega)]
  have hb : encMsg m = encN 1 m.Kind ++ encN 4 m.Txn ++ encBody m := by rw [encMsg, List.append_assoc]
  rw [hb]
  unfold encBody
  cases hO with
  | mod k e hs =>
    have ek : (m.Kind == 1) = true := by simpa using k
    obtain ⟨o1, o2, o3, o4, o5, o6, o7, o8, o9⟩ := okM_of v4 hs
    have c1 := encC_len o2
    have c2 := encAs_len o8
    have lm := encN_length 1 m.Mod.Kind
    have l2 := encN_length 2 m.Mod.Prio
    have l3 := encN_length 4 m.Mod.Idle
    have l4 := encN_length 4 m.Mod.Hard
    have l5 := encN_length 1 m.Mod.Owner
    rw [ek, cond_true, if_pos k, ← enc1, fit1 (by simp only [List.length_append]; omega), heads_eq o2, Option.bind_some, fit1 (by simp only [List.length_append]; omega), racts_eq o8]
    cases m.Mod.Check with
    | true =>
      rw [cond_true, fit1 (by simp only [List.length_append, List.length_singleton]; omega), Option.bind_some, fit1 (by simp only [List.length_append, List.length_singleton]; omega)]
      have h1 : (if true = true then (1 : Int) else 0) = 1 := rfl
      have : encN 1 1 = [1] := by decide
      rw [h1]
      simp only [encM, this, List.append_assoc]
    | false =>
      rw [cond_false, fit1 (by simp only [List.length_append, List.length_singleton]; omega), Option.bind_some, fit1 (by simp only [List.length_append, List.length_singleton]; omega)]
      have h1 : (if false = true then (1 : Int) else 0) = 0 := rfl
      have : encN 1 0 = [0] := by decide
      rw [h1]
      simp only [encM, this, List.append_assoc]
  | err k e h1 h2 =>
    have ek : (m.Kind == 6) = true := by simpa using k
    rw [ne_beq (by omega : m.Kind ≠ 1), cond_false, ek, cond_true, if_neg (by omega), if_pos k, ← enc1, fit1 (by simp only [List.length_append, encN_length]; omega)]
  | pkt k e h1 h2 h3 =>
    have ek : (m.Kind == 8) = true := by simpa using k
    have hh := okH_of v6
    rw [ne_beq (by omega : m.Kind ≠ 1), cond_false, ne_beq (by omega : m.Kind ≠ 6), cond_false, ek, cond_true, if_neg (by omega), if_neg (by omega), if_pos k, ← enc1, fit1 (by simp only [List.length_append, encN_length]; omega), rhead_l0s_eq m hh 12 0 _ rfl (by simp only [List.length_append, encN_length]; omega), Option.bind_some, List.drop_zero]
    simp only [List.append_assoc]
  | rul k e h1 h2 =>
    have e9 : (bif (m.Kind == 9) then (m.Kind == 9) else (m.Kind == 10)) = true := by rcases k with h | h <;> rw [h] <;> rfl
    have v := msg_okRs w0 h1 hl
    have e0 := rrules_l1_eq m v.2 hl m.Rules 0 70000 (encN 1 m.Kind ++ encN 4 m.Txn ++ encN 2 (m.Rules.length : Int)) rfl (Nat.zero_le _) (by omega) (by simp only [List.length_append, encN_length]; omega)
    have e0' : podestaref09_Encode_l1 m 70000 0 (encN 1 m.Kind ++ encN 4 m.Txn ++ encN 2 (m.Rules.length : Int)) = _ := e0
    rw [ne_beq (by omega : m.Kind ≠ 1), cond_false, ne_beq (by omega : m.Kind ≠ 6), cond_false, ne_beq (by omega : m.Kind ≠ 8), cond_false, e9, cond_true, if_neg (by omega), if_neg (by omega), if_neg (by omega), if_pos k, List.length_map, N2, Option.bind_some, fit1 (by simp only [List.length_append, encN_length]; omega), e0', Option.bind_some]
    simp only [encRs, encL, List.append_assoc]
  | bare n1 n6 n8 n9 n10 e h1 h2 =>
    have e9 : (bif (m.Kind == 9) then (m.Kind == 9) else (m.Kind == 10)) = false := by
      rw [ne_beq n9, ne_beq n10]
      rfl
    rw [ne_beq n1, cond_false, ne_beq n6, cond_false, ne_beq n8, cond_false, e9, cond_false, if_neg n1, if_neg n6, if_neg n8, if_neg (by omega), List.append_nil]
/-! ### which messages are the same -/
theorem same_beq (a b : Msg) : podestaref09_SameMsgs_raw [a] [b] = some (a == b) := by
  have key : (((((((a.Kind != b.Kind) || (a.Txn != b.Txn)) || (a.E != b.E)) || (!(podestaref04_SameMods a.Mod b.Mod))) || (a.Port != b.Port)) || (!(a.Head == b.Head))) || (!(zipAll podestaref04_Equal a.Rules b.Rules))) = !(a == b) := by
    rw [ref_SameMods_eq, ref_Same_eq, Bool.eq_iff_iff]
    obtain ⟨k, id, e, md, p, hd, l⟩ := a
    obtain ⟨k', id', e', md', p', hd', l'⟩ := b
    simp only [Bool.or_eq_true, Bool.not_eq_true', beq_eq_false_iff_ne, bne_iff_ne, ne_eq, Msg.mk.injEq]
    constructor
    · intro h hh
      simp_all
    · intro h
      by_cases h1 : k = k' <;> by_cases h2 : id = id' <;> by_cases h3 : e = e' <;> by_cases h4 : md = md' <;> by_cases h5 : p = p' <;> by_cases h6 : hd = hd' <;> simp_all
  have hix : ixO [b] ((0 : Nat) : Int) = some b := rfl
  rw [podestaref09_SameMsgs_raw]
  have hlen : ((((List.map Msg.av [a]).length : Nat) : Int) != (((List.map Msg.av [b]).length : Nat) : Int)) = false := rfl
  rw [hlen, cond_false, podestaref09_SameMsgs_l0s, hix, Option.bind_some, key]
  cases a == b <;> rfl
theorem code_Same_eq (a b : Msg) : code_Same a b = (a == b) := by
  rw [code_Same, mods_Same_eq, rule_Same_eq, Bool.eq_iff_iff]
  obtain ⟨k, id, e, md, p, h, l⟩ := a
  obtain ⟨k', id', e', md', p', h', l'⟩ := b
  simp only [Bool.and_eq_true, beq_iff_eq, Msg.mk.injEq]
  constructor <;> intro h <;> simp_all

end Go.Proofs.Ythfidfjogecnpaa

set_option linter.unusedVariables false
set_option linter.unusedSimpArgs false
set_option maxRecDepth 100000
set_option maxHeartbeats 4000000
namespace Go.Proofs.Ythfidfjogecnpaa
open Go.Sh
/-! ### readers -/
structure Vw (σ : Type) where
  live : σ → List Int → Prop
  dead : σ → Prop
def St {σ : Type} (W : Vw σ) (s : σ) : Option (List Int) → Prop
  | none => W.dead s
  | some b => W.live s b
def RdS {σ α : Type} (W : Vw σ) (F : σ → Option (α × σ)) (p : Ps α) : Prop := ∀ s o, St W s o → ∃ a s' o', F s = some (a, s') ∧ St W s' o' ∧ o.bind p = o'.map fun r => (a, r)
theorem chain {α β : Type} {p : Ps α} {q : α → Ps β} {o o' : Option (List Int)} {a : α} (h : o.bind p = o'.map fun r => (a, r)) : o.bind (bindP p q) = o'.bind (q a) := by
  cases o with
  | none => cases o' with
    | none => rfl
    | some _ => cases h
  | some b =>
    rw [Option.bind_some] at h ⊢
    unfold bindP
    rw [h]
    cases o' <;> rfl
theorem rd_bind {σ α β : Type} {W : Vw σ} {F : σ → Option (α × σ)} {G : α × σ → Option (β × σ)} {p : Ps α} {q : α → Ps β} (h1 : RdS W F p) (h2 : ∀ a, RdS W (fun s => G (a, s)) (q a)) : RdS W (fun s => (F s).bind G) (bindP p q) := by
  intro s o hs
  obtain ⟨a, s', o', e1, hs', e2⟩ := h1 s o hs
  obtain ⟨b, s2, o2, e3, hs2, e4⟩ := h2 a s' o' hs'
  exact ⟨b, s2, o2, by dsimp only; rw [e1, Option.bind_some]; exact e3, hs2, by rw [chain e2]; exact e4⟩
theorem rd_pure {σ α : Type} {W : Vw σ} (a : α) : RdS W (fun s => some (a, s)) (pureP a) := by
  intro s o hs
  refine ⟨a, s, o, rfl, hs, ?_⟩
  cases o <;> rfl
def cW : Vw Reader := ⟨fun s b => s = ⟨b, false⟩ ∧ Bytes b, fun s => s.end_ = true⟩
theorem get_rd (k : Nat) (hk : k ≤ 8) : RdS cW (fun s => code_reader_get_raw s (k : Int)) (getP k) := by
  intro s o hs
  cases o with
  | none =>
    have hd : s.end_ = true := hs
    refine ⟨0, { b := s.b, end_ := true }, none, ?_, rfl, rfl⟩
    dsimp only
    rw [code_reader_get_raw, hd, Bool.true_or, cond_true]
  | some b =>
    obtain ⟨rfl, hb⟩ := (hs : s = ⟨b, false⟩ ∧ Bytes b)
    dsimp only
    by_cases hl : b.length < k
    · refine ⟨0, { b := b, end_ := true }, none, ?_, rfl, ?_⟩
      · rw [code_reader_get_raw]
        dsimp only
        rw [List.length_map, decide_eq_true (by omega), Bool.or_true, cond_true]
      · rw [Option.bind_some, getP, if_pos hl]
        rfl
    · have ht : (b.take k).length = k := by rw [List.length_take]; omega
      have hbt : Bytes (b.take k) := fun y hy => hb y (List.mem_of_mem_take hy)
      have hv := valN_lt _ hbt
      have hn := beN_valN _ hbt
      rw [ht] at hv hn
      have hg := get_app (valN (b.take k)) k hk (b.drop k)
      rw [beB_eq, hn, List.take_append_drop, Nat.mod_eq_of_lt hv] at hg
      refine ⟨_, _, some (b.drop k), hg, ⟨rfl, fun y hy => hb y (List.mem_of_mem_drop hy)⟩, ?_⟩
      rw [Option.bind_some, getP, if_neg hl]
      rfl
theorem num_rd (k : Nat) (hk : k ≤ 8) : RdS cW (fun s => code_reader_num_raw s (k : Int)) (numP k) := by
  unfold code_reader_num_raw
  refine rd_bind (get_rd k hk) fun a => ?_
  exact rd_pure (W := cW) (IntKind.i64.wrap a)
theorem g8_rd : RdS cW (fun s => code_reader_get_raw s 8) (getP 8) := get_rd 8 (by decide)
theorem n1_rd : RdS cW (fun s => code_reader_num_raw s 1) (numP 1) := num_rd 1 (by decide)
theorem n2_rd : RdS cW (fun s => code_reader_num_raw s 2) (numP 2) := num_rd 2 (by decide)
theorem n4_rd : RdS cW (fun s => code_reader_num_raw s 4) (numP 4) := num_rd 4 (by decide)
theorem n8_rd : RdS cW (fun s => code_reader_num_raw s 8) (numP 8) := num_rd 8 (by decide)
theorem head_l0s_rd : ∀ (n t : Nat) (s : Reader) (o : Option (List Int)) (h : List Int), h.length = t + n → St cW s o → ∃ s' o' l, code_reader_head_l0s n t s.b s.end_ h = some (s'.b, s'.end_, h.take t ++ l) ∧ St cW s' o' ∧ o.bind (repP (getP 8) n) = o'.map fun r => (l, r)
  | 0, t, s, o, h, hl, hs => ⟨s, o, [], by rw [code_reader_head_l0s, List.append_nil, List.take_of_length_le (by omega)], hs, by cases o <;> rfl⟩
  | n + 1, t, s, o, h, hl, hs => by
    obtain ⟨a, s1, o1, e1, hs1, e2⟩ := g8_rd s o hs
    obtain ⟨s2, o2, l, e3, hs2, e4⟩ := head_l0s_rd n (t + 1) s1 o1 (h.set t a) (by rw [List.length_set]; omega) hs1
    refine ⟨s2, o2, a :: l, ?_, hs2, ?_⟩
    · rw [code_reader_head_l0s]
      have e1' : code_reader_get_raw { b := s.b, end_ := s.end_ } 8 = some (a, s1) := e1
      rw [e1', Option.bind_some, e3]
      have : (h.set t a).take (t + 1) = h.take t ++ [a] := by
        rw [List.take_add_one, List.take_set_of_le (by omega)]
        congr 1
        rw [List.getElem?_set_self (by omega)]
        rfl
      rw [this, List.append_assoc]
      rfl
    · rw [repP, chain e2, chain e4]
      cases o2 <;> rfl
theorem head_rd : RdS cW (fun s => code_reader_head_raw s) headP := by
  intro s o hs
  obtain ⟨s', o', l, e1, hs', e2⟩ := head_l0s_rd 12 0 s o [0, 0, 0, 0, 0, 0, 0, 0, 0, 0, 0, 0] rfl hs
  exact ⟨l, s', o', by dsimp only; rw [code_reader_head_raw, e1, Option.bind_some]; rfl, hs', e2⟩
theorem cube_rd : RdS cW (fun s => code_reader_cube_raw s) cubeP := by
  unfold code_reader_cube_raw
  refine rd_bind head_rd fun v => ?_
  dsimp only
  refine rd_bind head_rd fun c => ?_
  exact rd_pure (W := cW) (⟨v, c⟩ : Cube)
/-- as many as were told -/
theorem rep_step {α : Type} {p : Ps α} {n : Nat} {o o1 o2 : Option (List Int)} {a : α} {l : List α} (e1 : o.bind p = o1.map fun r => (a, r)) (e2 : o1.bind (repP p n) = o2.map fun r => (l, r)) : o.bind (repP p (n + 1)) = o2.map fun r => (a :: l, r) := by
  rw [repP, chain e1, chain e2]
  cases o2 <;> rfl
theorem acts_l0_rd : ∀ (n fuel : Nat) (s : Reader) (o : Option (List Int)) (out : List Act), n < fuel → out.length + n ≤ 1000 → St cW s o → ∃ s' o' l, code_reader_acts_l0 fuel (n : Int) s.b s.end_ out = some (s'.b, s'.end_, out ++ l) ∧ St cW s' o' ∧ o.bind (repP actP n) = o'.map fun r => (l, r)
  | n, 0, s, o, out, hf, hl, hs => by omega
  | 0, f + 1, s, o, out, hf, hl, hs => ⟨s, o, [], by rw [code_reader_acts_l0, decide_eq_false (by omega), Bool.false_and, cond_false, List.append_nil], hs, by cases o <;> rfl⟩
  | n + 1, f + 1, s, none, out, hf, hl, hs => by
    have hd : s.end_ = true := hs
    exact ⟨s, none, [], by rw [code_reader_acts_l0, hd, Bool.not_true, Bool.and_false, cond_false, List.append_nil], hs, rfl⟩
  | n + 1, f + 1, s, some b, out, hf, hl, hs => by
    have hd : s.end_ = false := by
      have := (hs : s = ⟨b, false⟩ ∧ Bytes b).1
      rw [this]
    obtain ⟨a1, s1, o1, e1, hs1, p1⟩ := n1_rd s _ hs
    obtain ⟨a2, s2, o2, e2, hs2, p2⟩ := n1_rd s1 _ hs1
    obtain ⟨a3, s3, o3, e3, hs3, p3⟩ := n1_rd s2 _ hs2
    obtain ⟨a4, s4, o4, e4, hs4, p4⟩ := g8_rd s3 _ hs3
    obtain ⟨s5, o5, l, e5, hs5, p5⟩ := acts_l0_rd n f s4 o4 (out ++ [⟨a1, a2, a3, a4⟩]) (by omega) (by rw [List.length_append, List.length_singleton]; omega) hs4
    refine ⟨s5, o5, ⟨a1, a2, a3, a4⟩ :: l, ?_, hs5, rep_step (o1 := o4) ?_ p5⟩
    · have e1' : code_reader_num_raw { b := s.b, end_ := s.end_ } 1 = some (a1, s1) := e1
      dsimp only at e2 e3 e4
      rw [code_reader_acts_l0, e1']
      simp only [Option.bind_some, e2, e3, e4]
      have hw : IntKind.i64.wrap (((n + 1 : Nat) : Int) - 1) = (n : Int) := by rw [wrap_eq (by omega) (by omega)]; omega
      rw [decide_eq_true (by omega), hd, Bool.not_false, Bool.and_true, cond_true, fitO_eq (by rw [List.length_singleton]; omega), hw, e5, List.append_assoc]
      rfl
    · rw [actP, chain p1, chain p2, chain p3, chain p4]
      cases o4 <;> rfl
theorem num_in {k : Nat} (hk : k ≤ 4) {b r : List Int} {a : Int} (hb : Bytes b) (h : numP k b = some (a, r)) : 0 ≤ a ∧ a < ((256 ^ k : Nat) : Int) := ((cod_num k hk).dec b a r hb h).2
theorem acts_rd : RdS cW (fun s => code_reader_acts_raw 300 s) (listP 1 actP) := by
  intro s o hs
  obtain ⟨a, s1, o1, e1, hs1, p1⟩ := n1_rd s o hs
  dsimp only at e1
  cases o1 with
  | none =>
    have hd : s1.end_ = true := hs1
    refine ⟨[], s1, none, ?_, hs1, ?_⟩
    · dsimp only
      rw [code_reader_acts_raw, e1, Option.bind_some]
      dsimp only
      rw [code_reader_acts_l0, hd, Bool.not_true, Bool.and_false, cond_false, Option.bind_some, ← hd]
    · rw [listP, chain p1]; rfl
  | some b1 =>
    have hin : 0 ≤ a ∧ a < ((256 ^ 1 : Nat) : Int) := by
      cases o with
      | none => cases p1
      | some b =>
        have hb := (hs : s = ⟨b, false⟩ ∧ Bytes b).2
        exact num_in (by decide) hb (show numP 1 b = some (a, b1) from p1)
    obtain ⟨n, rfl⟩ := Int.eq_ofNat_of_zero_le hin.1
    obtain ⟨s2, o2, l, e2, hs2, p2⟩ := acts_l0_rd n 300 s1 _ [] (by omega) (by rw [List.length_nil]; omega) hs1
    refine ⟨l, s2, o2, ?_, hs2, ?_⟩
    · dsimp only
      rw [code_reader_acts_raw, e1, Option.bind_some, e2, Option.bind_some]
      rfl
    · rw [listP, chain p1]
      exact p2
theorem rules_l0_rd : ∀ (n fuel : Nat) (s : Reader) (o : Option (List Int)) (out : List Rule), n < fuel → out.length + n ≤ 100000 → St cW s o → ∃ s' o' l, code_reader_rules_l0 fuel (n : Int) s.b s.end_ out = some (s'.b, s'.end_, out ++ l) ∧ St cW s' o' ∧ o.bind (repP ruleP n) = o'.map fun r => (l, r)
  | n, 0, s, o, out, hf, hl, hs => by omega
  | 0, f + 1, s, o, out, hf, hl, hs => ⟨s, o, [], by rw [code_reader_rules_l0, decide_eq_false (by omega), Bool.false_and, cond_false, List.append_nil], hs, by cases o <;> rfl⟩
  | n + 1, f + 1, s, none, out, hf, hl, hs => by
    have hd : s.end_ = true := hs
    exact ⟨s, none, [], by rw [code_reader_rules_l0, hd, Bool.not_true, Bool.and_false, cond_false, List.append_nil], hs, rfl⟩
  | n + 1, f + 1, s, some b, out, hf, hl, hs => by
    have hd : s.end_ = false := by
      have := (hs : s = ⟨b, false⟩ ∧ Bytes b).1
      rw [this]
    obtain ⟨a1, s1, o1, e1, hs1, p1⟩ := cube_rd s _ hs
    obtain ⟨a2, s2, o2, e2, hs2, p2⟩ := n2_rd s1 _ hs1
    obtain ⟨a3, s3, o3, e3, hs3, p3⟩ := n4_rd s2 _ hs2
    obtain ⟨a4, s4, o4, e4, hs4, p4⟩ := n4_rd s3 _ hs3
    obtain ⟨a5, s5, o5, e5, hs5, p5⟩ := n1_rd s4 _ hs4
    obtain ⟨a6, s6, o6, e6, hs6, p6⟩ := n8_rd s5 _ hs5
    obtain ⟨a7, s7, o7, e7, hs7, p7⟩ := n8_rd s6 _ hs6
    obtain ⟨a8, s8, o8, e8, hs8, p8⟩ := n8_rd s7 _ hs7
    obtain ⟨a9, s9, o9, e9, hs9, p9⟩ := acts_rd s8 _ hs8
    obtain ⟨s10, o10, l, e10, hs10, p10⟩ := rules_l0_rd n f s9 o9 (out ++ [⟨a1, a2, a9, a3, a4, a5, a6, a7, a8⟩]) (by omega) (by rw [List.length_append, List.length_singleton]; omega) hs9
    refine ⟨s10, o10, ⟨a1, a2, a9, a3, a4, a5, a6, a7, a8⟩ :: l, ?_, hs10, rep_step (o1 := o9) ?_ p10⟩
    · have e1' : code_reader_cube_raw { b := s.b, end_ := s.end_ } = some (a1, s1) := e1
      dsimp only at e2 e3 e4 e5 e6 e7 e8 e9
      rw [code_reader_rules_l0, e1']
      simp only [Option.bind_some, e2, e3, e4, e5, e6, e7, e8, e9]
      have hw : IntKind.i64.wrap (((n + 1 : Nat) : Int) - 1) = (n : Int) := by rw [wrap_eq (by omega) (by omega)]; omega
      rw [decide_eq_true (by omega), hd, Bool.not_false, Bool.and_true, cond_true, fitO_eq (by rw [List.length_singleton]; omega), hw, e10, List.append_assoc]
      rfl
    · rw [ruleP, chain p1, chain p2, chain p3, chain p4, chain p5, chain p6, chain p7, chain p8, chain p9]
      cases o9 <;> rfl
theorem rules_rd : RdS cW (fun s => code_reader_rules_raw 70000 s) (listP 2 ruleP) := by
  intro s o hs
  obtain ⟨a, s1, o1, e1, hs1, p1⟩ := n2_rd s o hs
  dsimp only at e1
  cases o1 with
  | none =>
    have hd : s1.end_ = true := hs1
    refine ⟨[], s1, none, ?_, hs1, ?_⟩
    · dsimp only
      rw [code_reader_rules_raw, e1, Option.bind_some]
      dsimp only
      rw [code_reader_rules_l0, hd, Bool.not_true, Bool.and_false, cond_false, Option.bind_some, ← hd]
    · rw [listP, chain p1]; rfl
  | some b1 =>
    have hin : 0 ≤ a ∧ a < ((256 ^ 2 : Nat) : Int) := by
      cases o with
      | none => cases p1
      | some b =>
        have hb := (hs : s = ⟨b, false⟩ ∧ Bytes b).2
        exact num_in (by decide) hb (show numP 2 b = some (a, b1) from p1)
    obtain ⟨n, rfl⟩ := Int.eq_ofNat_of_zero_le hin.1
    obtain ⟨s2, o2, l, e2, hs2, p2⟩ := rules_l0_rd n 70000 s1 _ [] (by omega) (by rw [List.length_nil]; omega) hs1
    refine ⟨l, s2, o2, ?_, hs2, ?_⟩
    · dsimp only
      rw [code_reader_rules_raw, e1, Option.bind_some, e2, Option.bind_some]
      rfl
    · rw [listP, chain p1]
      exact p2
theorem mod_rd (s : Reader) (o : Option (List Int)) (hs : St cW s o) : ∃ m q s' o', code_reader_mod_raw s = some (m, decide (q ≤ 1), s') ∧ St cW s' o' ∧ o.bind modP = o'.map fun r => ((m, q), r) := by
  obtain ⟨a1, s1, o1, e1, hs1, p1⟩ := n1_rd s _ hs
  obtain ⟨a2, s2, o2, e2, hs2, p2⟩ := cube_rd s1 _ hs1
  obtain ⟨a3, s3, o3, e3, hs3, p3⟩ := n2_rd s2 _ hs2
  obtain ⟨a4, s4, o4, e4, hs4, p4⟩ := n4_rd s3 _ hs3
  obtain ⟨a5, s5, o5, e5, hs5, p5⟩ := n4_rd s4 _ hs4
  obtain ⟨a6, s6, o6, e6, hs6, p6⟩ := n1_rd s5 _ hs5
  obtain ⟨a7, s7, o7, e7, hs7, p7⟩ := n1_rd s6 _ hs6
  obtain ⟨a8, s8, o8, e8, hs8, p8⟩ := acts_rd s7 _ hs7
  dsimp only at e1 e2 e3 e4 e5 e6 e7 e8
  refine ⟨⟨a1, a2, a3, a8, a4, a5, a6, a7 == 1⟩, a7, s8, o8, ?_, hs8, ?_⟩
  · rw [code_reader_mod_raw]
    simp only [Option.bind_some, e1, e2, e3, e4, e5, e6, e7, e8]
  · rw [modP, chain p1, chain p2, chain p3, chain p4, chain p5, chain p6, chain p7, chain p8]
    cases o8 <;> rfl
/-- what is answered, once all is read -/
def finD (o : Option (List Int)) (m : Msg) (ok : Bool) : Msg × Int :=
  match o with
  | none => (msg0 0 0, 8)
  | some r => if ok = true ∧ r = [] ∧ code_Sound m = true then (m, 0) else (msg0 0 0, 2)
theorem fin_eq (s : Reader) (o : Option (List Int)) (hs : St cW s o) (m : Msg) (ok : Bool) :
    (bif s.end_ then some (msg0 0 0, (8 : Int)) else (bif ((!ok) || (decide ((((List.map (intA .u8) s.b).length : Nat) : Int) > 0))) || (!(code_Sound m)) then some (msg0 0 0, 2) else some (m, 0))) = some (finD o m ok) := by
  cases o with
  | none =>
    have hd : s.end_ = true := hs
    rw [hd]
    rfl
  | some r =>
    obtain ⟨rfl, hb⟩ := (hs : s = ⟨r, false⟩ ∧ Bytes r)
    rw [cond_false, finD]
    dsimp only
    cases ok with
    | false => rfl
    | true =>
      cases r with
      | nil => cases code_Sound m <;> rfl
      | cons y r =>
        rw [if_neg (by rintro ⟨_, h, _⟩; cases h), List.length_map, decide_eq_true (by rw [List.length_cons]; omega)]
        rfl
theorem dec_of {b : List Int} {o : Option (List Int)} {m : Msg} {ok : Bool} (h : msgP b = o.map fun r => ((m, ok), r)) : finD o m ok = decS b := by
  rw [decS, h]
  cases o <;> rfl
theorem code_Decode_eq {b : List Int} (hb : Bytes b) : code_Decode_raw b = some (decS b) := by
  obtain ⟨k, s1, o1, e1, hs1, p1⟩ := n1_rd ⟨b, false⟩ (some b) ⟨rfl, hb⟩
  obtain ⟨id, s2, o2, e2, hs2, p2⟩ := n4_rd s1 _ hs1
  dsimp only at e1 e2
  have hm : ∀ (o : Option (List Int)) (x : Msg × Bool), o2.bind (bodyP k id) = (o.map fun r => (x, r)) → finD o x.1 x.2 = decS b := by
    intro o x hx
    refine dec_of ?_
    have : msgP b = (some b).bind msgP := rfl
    rw [this, msgP, chain p1, chain p2]
    exact hx
  rw [code_Decode_raw]
  simp only [e1, e2, Option.bind_some]
  by_cases h1 : k = 1
  · subst h1
    rw [show ((1 : Int) == 1) = true from rfl, cond_true]
    obtain ⟨m, q, s3, o3, e3, hs3, p3⟩ := mod_rd s2 _ hs2
    rw [e3, Option.bind_some, ← hm o3 ({ msg0 1 id with Mod := m }, decide (q ≤ 1)) (by rw [bodyP, if_pos rfl, chain p3]; cases o3 <;> rfl)]
    exact fin_eq s3 o3 hs3 { msg0 1 id with Mod := m } _
  · rw [ne_beq h1, cond_false]
    by_cases h6 : k = 6
    · subst h6
      rw [show ((6 : Int) == 6) = true from rfl, cond_true]
      obtain ⟨e, s3, o3, e3, hs3, p3⟩ := n1_rd s2 _ hs2
      dsimp only at e3
      rw [e3, Option.bind_some, ← hm o3 ({ msg0 6 id with E := e }, true) (by rw [bodyP, if_neg h1, if_pos rfl, chain p3]; cases o3 <;> rfl)]
      exact fin_eq s3 o3 hs3 { msg0 6 id with E := e } true
    · rw [ne_beq h6, cond_false]
      by_cases h8 : k = 8
      · subst h8
        rw [show ((8 : Int) == 8) = true from rfl, cond_true]
        obtain ⟨p, s3, o3, e3, hs3, p3⟩ := n1_rd s2 _ hs2
        obtain ⟨h, s4, o4, e4, hs4, p4⟩ := head_rd s3 _ hs3
        dsimp only at e3 e4
        simp only [e3, e4, Option.bind_some]
        rw [← hm o4 ({ msg0 8 id with Port := p, Head := h }, true) (by rw [bodyP, if_neg h1, if_neg h6, if_pos rfl, chain p3, chain p4]; cases o4 <;> rfl)]
        exact fin_eq s4 o4 hs4 { msg0 8 id with Port := p, Head := h } true
      · rw [ne_beq h8, cond_false]
        by_cases h9 : k = 9 ∨ k = 10
        · have e9 : (bif (k == 9) then (k == 9) else (k == 10)) = true := by rcases h9 with h | h <;> rw [h] <;> rfl
          rw [e9, cond_true]
          obtain ⟨l, s3, o3, e3, hs3, p3⟩ := rules_rd s2 _ hs2
          dsimp only at e3
          rw [e3, Option.bind_some, ← hm o3 ({ msg0 k id with Rules := l }, true) (by rw [bodyP, if_neg h1, if_neg h6, if_neg h8, if_pos h9, chain p3]; cases o3 <;> rfl)]
          exact fin_eq s3 o3 hs3 { msg0 k id with Rules := l } true
        · have e9 : (bif (k == 9) then (k == 9) else (k == 10)) = false := by
            rw [ne_beq (fun h => h9 (.inl h)), ne_beq (fun h => h9 (.inr h))]
            rfl
          rw [e9, cond_false, ← hm o2 (msg0 k id, true) (by rw [bodyP, if_neg h1, if_neg h6, if_neg h8, if_neg h9]; cases o2 <;> rfl)]
          exact fin_eq s2 o2 hs2 (msg0 k id) true

end Go.Proofs.Ythfidfjogecnpaa

set_option linter.unusedVariables false
set_option linter.unusedSimpArgs false
set_option maxRecDepth 100000
set_option maxHeartbeats 4000000
namespace Go.Proofs.Ythfidfjogecnpaa
open Go.Sh
/-! ### the reference's eye -/
def eW (B : List Int) : Vw Eye := ⟨fun s b => s.B = B ∧ s.Short = false ∧ 0 ≤ s.At ∧ s.At ≤ B.length ∧ B.drop s.At.toNat = b ∧ Bytes b, fun s => s.Short = true⟩
theorem Get_l0_eq (B : List Int) (hB : Bytes B) (hlen : B.length ≤ 20000) (at_ : Int) (sh : Bool) (j : Nat) (hj : at_ = (j : Int)) (k : Nat) (hk : k ≤ 8) (hjk : j + k ≤ B.length) : ∀ (m fuel i : Nat) (a : Nat), i + m = k → m < fuel → a < 256 ^ i → podestaref09_Eye_Get_l0 ⟨B, at_, sh⟩ (k : Int) fuel (a : Int) (i : Int) = some ((a * 256 ^ m + valN ((B.drop (j + i)).take m) : Nat) : Int)
  | m, 0, i, a, him, hf, ha => by omega
  | 0, f + 1, i, a, him, hf, ha => by
    rw [podestaref09_Eye_Get_l0, decide_eq_false (by omega), cond_false, List.take_zero]
    simp [valN]
  | m + 1, f + 1, i, a, him, hf, ha => by
    have hlt : j + i < B.length := by omega
    have hb := hB B[j + i] (List.getElem_mem hlt)
    have hw : IntKind.i64.wrap (at_ + (i : Int)) = ((j + i : Nat) : Int) := by rw [wrap_eq (by omega) (by omega)]; omega
    have hp : 256 ^ i ≤ 256 ^ 7 := Nat.pow_le_pow_right (by decide) (by omega)
    have hp7 : (256 : Nat) ^ 7 = 72057594037927936 := by decide
    obtain ⟨c, hc⟩ := Int.eq_ofNat_of_zero_le hb.1
    have hcl : c ≤ 255 := by omega
    have e1 : IntKind.u64.wrap (IntKind.u64.wrap ((a : Int) * 256) + IntKind.u64.wrap B[j + i]) = ((a * 256 + c : Nat) : Int) := by
      rw [hc, wrap_u64_mod, wrap_u64_mod, wrap_u64_mod]
      omega
    have e2 : IntKind.i64.wrap ((i : Int) + 1) = ((i + 1 : Nat) : Int) := by rw [wrap_eq (by omega) (by omega)]; omega
    rw [podestaref09_Eye_Get_l0, decide_eq_true (by omega), cond_true]
    dsimp only
    rw [hw, ixO_lt hlt, Option.bind_some, e1, e2, Get_l0_eq B hB hlen at_ sh j hj k hk hjk m f (i + 1) _ (by omega) (by omega) (by
      rw [Nat.pow_succ]
      have : a * 256 ≤ (256 ^ i - 1) * 256 := Nat.mul_le_mul_right _ (by omega)
      have h2 : 0 < 256 ^ i := Nat.pow_pos (by decide)
      have h3 : (256 ^ i - 1) * 256 = 256 ^ i * 256 - 256 := by rw [Nat.sub_mul]
      omega)]
    rw [List.drop_eq_getElem_cons hlt, List.take_succ_cons, valN, hc]
    have hl : ((B.drop (j + i + 1)).take m).length = m := by rw [List.length_take, List.length_drop]; omega
    have hpw : 256 * 256 ^ m = 256 ^ (m + 1) := Nat.pow_succ'.symm
    rw [hl, Nat.add_mul, Nat.mul_assoc, hpw, Int.toNat_natCast, ← Nat.add_assoc j i 1]
    congr 2
    omega
theorem eget_rd {B : List Int} (hB : Bytes B) (hlen : B.length ≤ 20000) (k : Nat) (hk : k ≤ 8) : RdS (eW B) (fun s => podestaref09_Eye_Get_raw 20 s (k : Int)) (getP k) := by
  intro s o hs
  cases o with
  | none =>
    have hd : s.Short = true := hs
    refine ⟨0, { s with Short := true }, none, ?_, rfl, rfl⟩
    dsimp only
    rw [podestaref09_Eye_Get_raw, hd, Bool.true_or, cond_true]
  | some b =>
    obtain ⟨h1, h2, h3, h4, h5, h6⟩ := (hs : s.B = B ∧ s.Short = false ∧ 0 ≤ s.At ∧ s.At ≤ B.length ∧ B.drop s.At.toNat = b ∧ Bytes b)
    obtain ⟨B', at_, sh⟩ := s
    dsimp only at h1 h2 h3 h4 h5
    subst h1; subst h2
    obtain ⟨j, rfl⟩ := Int.eq_ofNat_of_zero_le h3
    rw [Int.toNat_natCast] at h5
    have hbl : b.length = B'.length - j := by rw [← h5, List.length_drop]
    have hw : IntKind.i64.wrap ((j : Int) + (k : Int)) = ((j + k : Nat) : Int) := by rw [wrap_eq (by omega) (by omega)]; omega
    by_cases hl : b.length < k
    · refine ⟨0, ⟨B', j, true⟩, none, ?_, rfl, ?_⟩
      · dsimp only
        rw [podestaref09_Eye_Get_raw]
        dsimp only
        rw [hw, List.length_map, decide_eq_true (by omega), Bool.or_true, cond_true]
      · rw [Option.bind_some, getP, if_pos hl]
        rfl
    · have hg := Get_l0_eq B' hB hlen (j : Int) false j rfl k hk (by omega) k 20 0 0 (by omega) (by omega) (by decide)
      rw [Nat.zero_mul, Nat.zero_add, Nat.add_zero, h5] at hg
      refine ⟨((valN (b.take k) : Nat) : Int), ⟨B', ((j + k : Nat) : Int), false⟩, some (b.drop k), ?_, ⟨rfl, rfl, Int.natCast_nonneg _, by dsimp only; omega, ?_, fun y hy => h6 y (List.mem_of_mem_drop hy)⟩, ?_⟩
      · dsimp only
        rw [podestaref09_Eye_Get_raw]
        dsimp only
        have hg' : podestaref09_Eye_Get_l0 ⟨B', (j : Int), false⟩ (k : Int) 20 0 0 = _ := hg
        rw [hw, List.length_map, decide_eq_false (by omega), Bool.or_false, cond_false, hg', Option.bind_some]
      · dsimp only
        rw [Int.toNat_natCast, ← h5, List.drop_drop]
      · rw [Option.bind_some, getP, if_neg hl]
        rfl
theorem num_chain {k : Nat} {o o' : Option (List Int)} {a : Int} (h : o.bind (getP k) = o'.map fun r => (a, r)) : o.bind (numP k) = o'.map fun r => (IntKind.i64.wrap a, r) := by
  rw [numP, chain h]
  cases o' <;> rfl
/-- what is answered, once all is read -/
theorem efin_eq {B : List Int} (s : Eye) (o : Option (List Int)) (hs : St (eW B) s o) (m : Msg) (odd : Bool) (hm : ∀ r, o = some r → podestaref09_Msg_raw m = some (code_Sound m)) :
    (bif s.Short then some (msg0 0 0, (8 : Int)) else (bif (odd || (s.At != (((List.map (intA .u8) B).length : Nat) : Int))) then some (msg0 0 0, 2) else (podestaref09_Msg_raw m).bind fun x => (bif (!x) then some (msg0 0 0, 2) else some (m, 0)))) = some (finD o m (!odd)) := by
  cases o with
  | none =>
    have hd : s.Short = true := hs
    rw [hd]
    rfl
  | some r =>
    obtain ⟨h1, h2, h3, h4, h5, h6⟩ := (hs : s.B = B ∧ s.Short = false ∧ 0 ≤ s.At ∧ s.At ≤ B.length ∧ B.drop s.At.toNat = r ∧ Bytes r)
    rw [h2, cond_false, finD]
    cases odd with
    | true => rfl
    | false =>
      have hl : r.length = B.length - s.At.toNat := by rw [← h5, List.length_drop]
      rw [List.length_map, Bool.false_or]
      by_cases hr : r = []
      · have he : (s.At != ((B.length : Nat) : Int)) = false := by
          rw [hr, List.length_nil] at hl
          simp
          omega
        rw [he, cond_false, hm r rfl, Option.bind_some, hr]
        cases code_Sound m <;> rfl
      · have hp : 0 < r.length := List.length_pos_iff.2 hr
        have he : (s.At != ((B.length : Nat) : Int)) = true := by
          simp
          omega
        rw [he, cond_true, if_neg (fun h => hr h.2.1)]
section
variable {B : List Int} (hB : Bytes B) (hlen : B.length ≤ 20000)
include hB hlen
theorem e1_rd : RdS (eW B) (fun s => podestaref09_Eye_Get_raw 20 s 1) (getP 1) := eget_rd hB hlen 1 (by decide)
theorem e2_rd : RdS (eW B) (fun s => podestaref09_Eye_Get_raw 20 s 2) (getP 2) := eget_rd hB hlen 2 (by decide)
theorem e4_rd : RdS (eW B) (fun s => podestaref09_Eye_Get_raw 20 s 4) (getP 4) := eget_rd hB hlen 4 (by decide)
theorem e8_rd : RdS (eW B) (fun s => podestaref09_Eye_Get_raw 20 s 8) (getP 8) := eget_rd hB hlen 8 (by decide)
theorem ehead_l0s_rd : ∀ (n t : Nat) (s : Eye) (o : Option (List Int)) (h : List Int), h.length = t + n → St (eW B) s o → ∃ s' o' l, podestaref09_Eye_head_l0s n t s.B s.At s.Short h = some (s'.B, s'.At, s'.Short, h.take t ++ l) ∧ St (eW B) s' o' ∧ o.bind (repP (getP 8) n) = o'.map fun r => (l, r)
  | 0, t, s, o, h, hl, hs => ⟨s, o, [], by rw [podestaref09_Eye_head_l0s, List.append_nil, List.take_of_length_le (by omega)], hs, by cases o <;> rfl⟩
  | n + 1, t, s, o, h, hl, hs => by
    obtain ⟨a, s1, o1, e1, hs1, e2⟩ := e8_rd hB hlen s o hs
    obtain ⟨s2, o2, l, e3, hs2, e4⟩ := ehead_l0s_rd n (t + 1) s1 o1 (h.set t a) (by rw [List.length_set]; omega) hs1
    refine ⟨s2, o2, a :: l, ?_, hs2, rep_step e2 e4⟩
    rw [podestaref09_Eye_head_l0s]
    have e1' : podestaref09_Eye_Get_raw 20 { B := s.B, At := s.At, Short := s.Short } 8 = some (a, s1) := e1
    rw [e1', Option.bind_some, e3]
    have : (h.set t a).take (t + 1) = h.take t ++ [a] := by
      rw [List.take_add_one, List.take_set_of_le (by omega)]
      congr 1
      rw [List.getElem?_set_self (by omega)]
      rfl
    rw [this, List.append_assoc]
    rfl
theorem ehead_rd : RdS (eW B) (fun s => podestaref09_Eye_head_raw s) headP := by
  intro s o hs
  obtain ⟨s', o', l, e1, hs', e2⟩ := ehead_l0s_rd hB hlen 12 0 s o [0, 0, 0, 0, 0, 0, 0, 0, 0, 0, 0, 0] rfl hs
  exact ⟨l, s', o', by dsimp only; rw [podestaref09_Eye_head_raw, e1, Option.bind_some]; rfl, hs', e2⟩
theorem eacts_l0_rd (N : Nat) (hN : N ≤ 1000) : ∀ (n fuel i : Nat) (s : Eye) (o : Option (List Int)) (out : List Act), i + n = N → n < fuel → out.length + n ≤ 1000 → St (eW B) s o → ∃ s' o' l, podestaref09_Eye_acts_l0 (N : Int) fuel (i : Int) s.B s.At s.Short out = some (s'.B, s'.At, s'.Short, out ++ l) ∧ St (eW B) s' o' ∧ o.bind (repP actP n) = o'.map fun r => (l, r)
  | n, 0, i, s, o, out, hi, hf, hl, hs => by omega
  | 0, f + 1, i, s, o, out, hi, hf, hl, hs => ⟨s, o, [], by rw [podestaref09_Eye_acts_l0, decide_eq_false (by omega), Bool.false_and, cond_false, List.append_nil], hs, by cases o <;> rfl⟩
  | n + 1, f + 1, i, s, none, out, hi, hf, hl, hs => by
    have hd : s.Short = true := hs
    exact ⟨s, none, [], by rw [podestaref09_Eye_acts_l0, hd, Bool.not_true, Bool.and_false, cond_false, List.append_nil], hs, rfl⟩
  | n + 1, f + 1, i, s, some b, out, hi, hf, hl, hs => by
    have hd : s.Short = false := (hs : s.B = B ∧ s.Short = false ∧ _).2.1
    obtain ⟨a1, s1, o1, e1, hs1, p1⟩ := e1_rd hB hlen s _ hs
    obtain ⟨a2, s2, o2, e2, hs2, p2⟩ := e1_rd hB hlen s1 _ hs1
    obtain ⟨a3, s3, o3, e3, hs3, p3⟩ := e1_rd hB hlen s2 _ hs2
    obtain ⟨a4, s4, o4, e4, hs4, p4⟩ := e8_rd hB hlen s3 _ hs3
    obtain ⟨s5, o5, l, e5, hs5, p5⟩ := eacts_l0_rd N hN n f (i + 1) s4 o4 (out ++ [⟨IntKind.i64.wrap a1, IntKind.i64.wrap a2, IntKind.i64.wrap a3, a4⟩]) (by omega) (by omega) (by rw [List.length_append, List.length_singleton]; omega) hs4
    refine ⟨s5, o5, ⟨IntKind.i64.wrap a1, IntKind.i64.wrap a2, IntKind.i64.wrap a3, a4⟩ :: l, ?_, hs5, rep_step (o1 := o4) ?_ p5⟩
    · have e1' : podestaref09_Eye_Get_raw 20 { B := s.B, At := s.At, Short := s.Short } 1 = some (a1, s1) := e1
      dsimp only at e2 e3 e4
      rw [podestaref09_Eye_acts_l0, e1']
      simp only [Option.bind_some, e2, e3, e4]
      have hw : IntKind.i64.wrap ((i : Int) + 1) = ((i + 1 : Nat) : Int) := by rw [wrap_eq (by omega) (by omega)]; omega
      rw [decide_eq_true (by omega), hd, Bool.not_false, Bool.and_true, cond_true, fitO_eq (by rw [List.length_singleton]; omega), hw, e5, List.append_assoc]
      rfl
    · rw [actP, chain (num_chain p1), chain (num_chain p2), chain (num_chain p3), chain p4]
      cases o4 <;> rfl
theorem eacts_rd : RdS (eW B) (fun s => podestaref09_Eye_acts_raw 300 s) (listP 1 actP) := by
  intro s o hs
  obtain ⟨a, s1, o1, e1, hs1, p1⟩ := e1_rd hB hlen s o hs
  dsimp only at e1
  cases o1 with
  | none =>
    have hd : s1.Short = true := hs1
    refine ⟨[], s1, none, ?_, hs1, ?_⟩
    · dsimp only
      rw [podestaref09_Eye_acts_raw, e1, Option.bind_some]
      dsimp only
      rw [podestaref09_Eye_acts_l0, hd, Bool.not_true, Bool.and_false, cond_false, Option.bind_some, ← hd]
    · rw [listP, chain (num_chain p1)]; rfl
  | some b1 =>
    have hin : 0 ≤ IntKind.i64.wrap a ∧ IntKind.i64.wrap a < ((256 ^ 1 : Nat) : Int) := by
      cases o with
      | none => cases p1
      | some b => exact num_in (by decide) (hs : s.B = B ∧ s.Short = false ∧ 0 ≤ s.At ∧ s.At ≤ B.length ∧ B.drop s.At.toNat = b ∧ Bytes b).2.2.2.2.2 (show numP 1 b = some (IntKind.i64.wrap a, b1) from num_chain p1)
    have p1' := num_chain p1
    obtain ⟨n, hn⟩ := Int.eq_ofNat_of_zero_le hin.1
    rw [hn] at hin p1'
    obtain ⟨s2, o2, l, e2, hs2, p2⟩ := eacts_l0_rd hB hlen n (by omega) n 300 0 s1 _ [] (by omega) (by omega) (by rw [List.length_nil]; omega) hs1
    refine ⟨l, s2, o2, ?_, hs2, ?_⟩
    · dsimp only
      have e2' : podestaref09_Eye_acts_l0 (n : Int) 300 0 s1.B s1.At s1.Short [] = _ := e2
      rw [podestaref09_Eye_acts_raw, e1, Option.bind_some]
      dsimp only
      rw [hn, e2', Option.bind_some]
      rfl
    · rw [listP, chain p1']
      exact p2
theorem erules_l0_rd (k id : Int) (N : Nat) (hN : N ≤ 65536) : ∀ (n fuel i : Nat) (s : Eye) (o : Option (List Int)) (out : List Rule), i + n = N → n < fuel → out.length + n ≤ 100000 → St (eW B) s o → ∃ s' o' l, podestaref09_Decode_l0 (N : Int) k id fuel (i : Int) s.B s.At s.Short out = some (s'.B, s'.At, s'.Short, k, id, out ++ l) ∧ St (eW B) s' o' ∧ o.bind (repP ruleP n) = o'.map fun r => (l, r)
  | n, 0, i, s, o, out, hi, hf, hl, hs => by omega
  | 0, f + 1, i, s, o, out, hi, hf, hl, hs => ⟨s, o, [], by rw [podestaref09_Decode_l0, decide_eq_false (by omega), Bool.false_and, cond_false, List.append_nil], hs, by cases o <;> rfl⟩
  | n + 1, f + 1, i, s, none, out, hi, hf, hl, hs => by
    have hd : s.Short = true := hs
    exact ⟨s, none, [], by rw [podestaref09_Decode_l0, hd, Bool.not_true, Bool.and_false, cond_false, List.append_nil], hs, rfl⟩
  | n + 1, f + 1, i, s, some b, out, hi, hf, hl, hs => by
    have hd : s.Short = false := (hs : s.B = B ∧ s.Short = false ∧ _).2.1
    obtain ⟨a0, s0, o0, e0, hs0, p0⟩ := ehead_rd hB hlen s _ hs
    obtain ⟨a1, s1, o1, e1, hs1, p1⟩ := ehead_rd hB hlen s0 _ hs0
    obtain ⟨a2, s2, o2, e2, hs2, p2⟩ := e2_rd hB hlen s1 _ hs1
    obtain ⟨a3, s3, o3, e3, hs3, p3⟩ := e4_rd hB hlen s2 _ hs2
    obtain ⟨a4, s4, o4, e4, hs4, p4⟩ := e4_rd hB hlen s3 _ hs3
    obtain ⟨a5, s5, o5, e5, hs5, p5⟩ := e1_rd hB hlen s4 _ hs4
    obtain ⟨a6, s6, o6, e6, hs6, p6⟩ := e8_rd hB hlen s5 _ hs5
    obtain ⟨a7, s7, o7, e7, hs7, p7⟩ := e8_rd hB hlen s6 _ hs6
    obtain ⟨a8, s8, o8, e8, hs8, p8⟩ := e8_rd hB hlen s7 _ hs7
    obtain ⟨a9, s9, o9, e9, hs9, p9⟩ := eacts_rd hB hlen s8 _ hs8
    obtain ⟨s10, o10, l, e10, hs10, p10⟩ := erules_l0_rd k id N hN n f (i + 1) s9 o9 (out ++ [⟨⟨a0, a1⟩, IntKind.i64.wrap a2, a9, IntKind.i64.wrap a3, IntKind.i64.wrap a4, IntKind.i64.wrap a5, IntKind.i64.wrap a6, IntKind.i64.wrap a7, IntKind.i64.wrap a8⟩]) (by omega) (by omega) (by rw [List.length_append, List.length_singleton]; omega) hs9
    refine ⟨s10, o10, ⟨⟨a0, a1⟩, IntKind.i64.wrap a2, a9, IntKind.i64.wrap a3, IntKind.i64.wrap a4, IntKind.i64.wrap a5, IntKind.i64.wrap a6, IntKind.i64.wrap a7, IntKind.i64.wrap a8⟩ :: l, ?_, hs10, rep_step (o1 := o9) ?_ p10⟩
    · have e0' : podestaref09_Eye_head_raw { B := s.B, At := s.At, Short := s.Short } = some (a0, s0) := e0
      dsimp only at e1 e2 e3 e4 e5 e6 e7 e8 e9
      rw [podestaref09_Decode_l0, e0']
      simp only [Option.bind_some, e1, e2, e3, e4, e5, e6, e7, e8, e9]
      have hw : IntKind.i64.wrap ((i : Int) + 1) = ((i + 1 : Nat) : Int) := by rw [wrap_eq (by omega) (by omega)]; omega
      rw [decide_eq_true (by omega), hd, Bool.not_false, Bool.and_true, cond_true, fitO_eq (by rw [List.length_singleton]; omega), hw, e10, List.append_assoc]
      rfl
    · have pc : (some b).bind cubeP = o1.map fun r => ((⟨a0, a1⟩ : Cube), r) := by
        rw [cubeP, chain p0, chain p1]
        cases o1 <;> rfl
      rw [ruleP, chain pc, chain (num_chain p2), chain (num_chain p3), chain (num_chain p4), chain (num_chain p5), chain (num_chain p6), chain (num_chain p7), chain (num_chain p8), chain p9]
      cases o9 <;> rfl
theorem ref_Decode_eq : podestaref09_Decode_raw 70000 B = some (decS B) := by
  obtain ⟨k0, s1, o1, e1, hs1, p1⟩ := e1_rd hB hlen ⟨B, 0, false⟩ (some B) ⟨rfl, rfl, Int.le_refl _, Int.natCast_nonneg _, rfl, hB⟩
  obtain ⟨id0, s2, o2, e2, hs2, p2⟩ := e4_rd hB hlen s1 _ hs1
  dsimp only at e1 e2
  have hm : ∀ (o : Option (List Int)) (x : Msg × Bool), o2.bind (bodyP (IntKind.i64.wrap k0) (IntKind.i64.wrap id0)) = (o.map fun r => (x, r)) → msgP B = o.map fun r => (x, r) := by
    intro o x hx
    have : msgP B = (some B).bind msgP := rfl
    rw [this, msgP, chain (num_chain p1), chain (num_chain p2)]
    exact hx
  have hf : ∀ (s : Eye) (o : Option (List Int)) (x : Msg) (odd : Bool), St (eW B) s o → o2.bind (bodyP (IntKind.i64.wrap k0) (IntKind.i64.wrap id0)) = (o.map fun r => ((x, !odd), r)) →
      (bif s.Short then some (msg0 0 0, (8 : Int)) else (bif (odd || (s.At != (((List.map (intA .u8) B).length : Nat) : Int))) then some (msg0 0 0, 2) else (podestaref09_Msg_raw x).bind fun y => (bif (!y) then some (msg0 0 0, 2) else some (x, 0)))) = some (decS B) := by
    intro s o x odd hs hx
    have h := hm o (x, !odd) hx
    rw [← dec_of h]
    refine efin_eq s o hs x odd fun r hr => ?_
    subst hr
    obtain ⟨w, hl⟩ := msg_wf hB h
    exact refMsg_eq w hl
  rw [podestaref09_Decode_raw]
  simp only [e1, e2, Option.bind_some]
  generalize IntKind.i64.wrap k0 = k at hf ⊢
  generalize hid : IntKind.i64.wrap id0 = id at hf ⊢
  by_cases h1 : k = 1
  · subst h1
    rw [show ((1 : Int) == 1) = true from rfl, cond_true]
    obtain ⟨a2, s3, o3, e3, hs3, p3⟩ := e1_rd hB hlen s2 _ hs2
    obtain ⟨a3, s4, o4, e4, hs4, p4⟩ := ehead_rd hB hlen s3 _ hs3
    obtain ⟨a4, s5, o5, e5, hs5, p5⟩ := ehead_rd hB hlen s4 _ hs4
    obtain ⟨a5, s6, o6, e6, hs6, p6⟩ := e2_rd hB hlen s5 _ hs5
    obtain ⟨a6, s7, o7, e7, hs7, p7⟩ := e4_rd hB hlen s6 _ hs6
    obtain ⟨a7, s8, o8, e8, hs8, p8⟩ := e4_rd hB hlen s7 _ hs7
    obtain ⟨a8, s9, o9, e9, hs9, p9⟩ := e1_rd hB hlen s8 _ hs8
    obtain ⟨a9, s10, o10, e10, hs10, p10⟩ := e1_rd hB hlen s9 _ hs9
    obtain ⟨a10, s11, o11, e11, hs11, p11⟩ := eacts_rd hB hlen s10 _ hs10
    dsimp only at e3 e4 e5 e6 e7 e8 e9 e10 e11
    simp only [Option.bind_some, e3, e4, e5, e6, e7, e8, e9, e10, e11]
    have pc : o3.bind cubeP = o5.map fun r => ((⟨a3, a4⟩ : Cube), r) := by
      rw [cubeP, chain p4, chain p5]
      cases o5 <;> rfl
    refine hf s11 o11 { msg0 1 id with Mod := ⟨IntKind.i64.wrap a2, ⟨a3, a4⟩, IntKind.i64.wrap a5, a10, IntKind.i64.wrap a6, IntKind.i64.wrap a7, IntKind.i64.wrap a8, a9 == 1⟩ } (decide (a9 > 1)) hs11 ?_
    have pm : o2.bind modP = o11.map fun r => (((⟨IntKind.i64.wrap a2, ⟨a3, a4⟩, IntKind.i64.wrap a5, a10, IntKind.i64.wrap a6, IntKind.i64.wrap a7, IntKind.i64.wrap a8, IntKind.i64.wrap a9 == 1⟩ : Mod), IntKind.i64.wrap a9), r) := by
      rw [modP, chain (num_chain p3), chain pc, chain (num_chain p6), chain (num_chain p7), chain (num_chain p8), chain (num_chain p9), chain (num_chain p10), chain p11]
      cases o11 <;> rfl
    rw [bodyP, if_pos rfl, chain pm]
    cases o11 with
    | none => rfl
    | some r =>
      have hw : IntKind.i64.wrap a9 = a9 := by
        cases o9 with
        | none =>
          have : o10 = none := by cases o10 with | none => rfl | some _ => cases p10
          subst this
          cases p11
        | some b9 =>
          cases o10 with
          | none => cases p11
          | some b10 =>
            have hb9 : Bytes b9 := (hs9 : s9.B = B ∧ s9.Short = false ∧ 0 ≤ s9.At ∧ s9.At ≤ B.length ∧ B.drop s9.At.toNat = b9 ∧ Bytes b9).2.2.2.2.2
            have := ((cod_get 1).dec b9 a9 b10 hb9 p10).2
            exact wrap_eq (by omega) (by omega)
      rw [hw]
      have e : decide (a9 ≤ 1) = !decide (a9 > 1) := by
        rw [Bool.eq_iff_iff]
        simp
      rw [← e]
      rfl
  · rw [ne_beq h1, cond_false]
    by_cases h6 : k = 6
    · subst h6
      rw [show ((6 : Int) == 6) = true from rfl, cond_true]
      obtain ⟨a2, s3, o3, e3, hs3, p3⟩ := e1_rd hB hlen s2 _ hs2
      dsimp only at e3
      rw [e3, Option.bind_some]
      refine hf s3 o3 { msg0 6 id with E := IntKind.i64.wrap a2 } false hs3 ?_
      rw [bodyP, if_neg h1, if_pos rfl, chain (num_chain p3)]
      cases o3 <;> rfl
    · rw [ne_beq h6, cond_false]
      by_cases h8 : k = 8
      · subst h8
        rw [show ((8 : Int) == 8) = true from rfl, cond_true]
        obtain ⟨a2, s3, o3, e3, hs3, p3⟩ := e1_rd hB hlen s2 _ hs2
        obtain ⟨a3, s4, o4, e4, hs4, p4⟩ := ehead_rd hB hlen s3 _ hs3
        dsimp only at e3 e4
        simp only [e3, e4, Option.bind_some]
        refine hf s4 o4 { msg0 8 id with Port := IntKind.i64.wrap a2, Head := a3 } false hs4 ?_
        rw [bodyP, if_neg h1, if_neg h6, if_pos rfl, chain (num_chain p3), chain p4]
        cases o4 <;> rfl
      · rw [ne_beq h8, cond_false]
        by_cases h9 : k = 9 ∨ k = 10
        · have e9 : (bif (k == 9) then (k == 9) else (k == 10)) = true := by rcases h9 with h | h <;> rw [h] <;> rfl
          rw [e9, cond_true]
          obtain ⟨a2, s3, o3, e3, hs3, p3⟩ := e2_rd hB hlen s2 _ hs2
          dsimp only at e3
          rw [e3, Option.bind_some]
          dsimp only
          have p3' := num_chain p3
          cases o3 with
          | none =>
            have hd : s3.Short = true := hs3
            rw [podestaref09_Decode_l0, hd, Bool.not_true, Bool.and_false, cond_false, Option.bind_some]
            refine hf ⟨s3.B, s3.At, true⟩ none (msg0 k id) false rfl ?_
            rw [bodyP, if_neg h1, if_neg h6, if_neg h8, if_pos h9, listP]
            have : o2.bind (bindP (numP 2) fun n => repP ruleP n.toNat) = none := by rw [chain p3']; rfl
            rw [chain (o' := none) (a := ([] : List Rule)) (by rw [this]; rfl)]
            rfl
          | some b3 =>
            have hin : 0 ≤ IntKind.i64.wrap a2 ∧ IntKind.i64.wrap a2 < ((256 ^ 2 : Nat) : Int) := by
              cases o2 with
              | none => cases p3
              | some b => exact num_in (by decide) (hs2 : s2.B = B ∧ s2.Short = false ∧ 0 ≤ s2.At ∧ s2.At ≤ B.length ∧ B.drop s2.At.toNat = b ∧ Bytes b).2.2.2.2.2 (show numP 2 b = some (IntKind.i64.wrap a2, b3) from p3')
            obtain ⟨n, hn⟩ := Int.eq_ofNat_of_zero_le hin.1
            rw [hn] at hin p3' ⊢
            have hn2 : (256 : Nat) ^ 2 = 65536 := by decide
            obtain ⟨s4, o4, l, e4, hs4, p4⟩ := erules_l0_rd hB hlen k id n (by omega) n 70000 0 s3 _ [] (by omega) (by omega) (by rw [List.length_nil]; omega) hs3
            have e4' : podestaref09_Decode_l0 (n : Int) k id 70000 0 s3.B s3.At s3.Short [] = _ := e4
            rw [e4', Option.bind_some]
            refine hf s4 o4 { msg0 k id with Rules := l } false hs4 ?_
            have pl : o2.bind (listP 2 ruleP) = o4.map fun r => (l, r) := by rw [listP, chain p3']; exact p4
            rw [bodyP, if_neg h1, if_neg h6, if_neg h8, if_pos h9, chain pl]
            cases o4 <;> rfl
        · have e9 : (bif (k == 9) then (k == 9) else (k == 10)) = false := by
            rw [ne_beq (fun h => h9 (.inl h)), ne_beq (fun h => h9 (.inr h))]
            rfl
          rw [e9, cond_false]
          refine hf s2 o2 (msg0 k id) false hs2 ?_
          rw [bodyP, if_neg h1, if_neg h6, if_neg h8, if_neg h9]
          cases o2 <;> rfl
end

end Go.Proofs.Ythfidfjogecnpaa

set_option linter.unusedVariables false
set_option linter.unusedSimpArgs false
set_option maxRecDepth 100000
set_option maxHeartbeats 4000000
namespace Go.Proofs.Ythfidfjogecnpaa
open Go.Sh
/-! ### podestalaw09.small: function 15 -/
noncomputable def podestalaw09_small_F : Go.Sh.Fn := ⟨15, bodyOf Try.f15, 14⟩
def podestalaw09_small (m1 : Msg) : Bool :=
  ((decide ((((List.map Rule.av m1.Rules).length : Nat) : Int) ≤ 40)) && (decide ((((List.map Act.av m1.Mod.Acts).length : Nat) : Int) ≤ 300)))
theorem podestalaw09_small_calls (m1 : Msg) : ACalls Try.prog tab.S 15 [Msg.av m1] [] (.sc (.bool (podestalaw09_small m1))) [] := by
  generalize H : podestalaw09_small m1 = r
  refine .of_AX podestalaw09_small_F Try.func15 fun c0 hc0 => ?_
  rw [podestalaw09_small] at H
  refine .sg 3 [1] (.rg (.sg 5 [1,7] (.mx 0 [13] (.sg 1 [2] (.dn ?_)))))
  subst H
  exact .ret Try.func15 hc0

/-! ### podestalaw09.CodeBytes: function 7 -/
noncomputable def podestalaw09_CodeBytes_F : Go.Sh.Fn := ⟨7, bodyOf Try.f7, 66⟩
def podestalaw09_CodeBytes_raw (m1 : Msg) : Option (Bool) :=
  (bif (!(podestalaw09_small m1)) then
    some true
  else
    (code_Encode_raw m1).bind fun x =>
    (podestaref09_Msg_raw m1).bind fun x1 =>
    (bif ((code_Sound m1) != x1) then
      some false
    else
      (podestaref09_Msg_raw m1).bind fun x2 =>
      (bif ((x.2 == 0) != x2) then
        some false
      else
        (bif (x.2 != 0) then
          some ((x.2 == 2) && ((((List.map (intA .u8) x.1).length : Nat) : Int) == 0))
        else
          (code_Decode_raw x.1).bind fun x3 =>
          (bif (x3.2 == 0) then
            (podestaref09_Encode_raw 70000 m1).bind fun v =>
            (bif (refSameB x.1 v) then
              (podestaref09_SameMsgs_raw [x3.1] [m1]).bind fun x4 =>
              some (x4 && (code_Same x3.1 m1))
            else
              some false)
          else
            some false)))))
theorem podestalaw09_CodeBytes_walk (m1 : Msg) (r : Bool) (H : podestalaw09_CodeBytes_raw m1 = some r) : ACalls Try.prog tab.S 7 [Msg.av m1] [] (.sc (.bool r)) [] := by
  refine .of_AX podestalaw09_CodeBytes_F Try.func7 fun c0 hc0 => ?_
  rw [podestalaw09_CodeBytes_raw] at H
  refine .sg 4 [1] (.rg (.sg 1 [1,7] (.cp [1,8] (podestalaw09_small_calls m1) (.sg 1 [1,9] (.dn (.cd (!(podestalaw09_small m1)) H (fun hb H => ?_) (fun hb H => ?_)))))))
  ·
    refine .sg 1 [] (.rg (.cp [10] (podestalaw09_answers_ok) (.sg 1 [2] (.dn ?_))))
    obtain rfl := Option.some.inj H
    exact .ret Try.func7 hc0
  ·
    refine .sg 2 [1] (.rg (.sg 1 [1,12] (bndO H fun x hv H => (.cp [1,13] (code_Encode_walk m1 x hv) (.sg 5 [1,3,4] (.dn (.sg 2 [1,3,4] (.rg (.cp [1,3,4,16] (podestalaw09_answers_ok) (.sg 3 [1,3,4,18,19] (.cp [1,3,4,18,20] (code_Sound_calls m1) (.sg 1 [1,3,4,18,20,21] (bndO H fun x1 hv H => (.cp [1,3,4,18,20,22] (podestaref09_Msg_walk m1 x1 hv) (.sg 3 [1,3,4,25] (.sp 25 ((code_Sound m1) != x1) H (fun hb H => ?_) (fun hb H => ?_)))))))))))))))))
    ·
      refine .sg 6 [1,3,4,31] (.dn (.sg 3 [2] ?_))
      obtain rfl := Option.some.inj H
      exact .ret Try.func7 hc0
    ·
      refine .sg 3 [1,3,4,25,27,28] (bndO H fun x2 hv H => (.cp [1,3,4,25,27,29] (podestaref09_Msg_walk m1 x2 hv) (.sg 2 [1,3,4,31] (.dn (.cd ((x.2 == 0) != x2) H (fun hb H => ?_) (fun hb H => ?_))))))
      ·
        refine .sg 2 [2] ?_
        obtain rfl := Option.some.inj H
        exact .ret Try.func7 hc0
      ·
        refine .sg 4 [1,3,4,33] (.cd (x.2 != 0) H (fun hb H => ?_) (fun hb H => ?_))
        ·
          refine .sg 1 [3,4] (.rg (.sg 3 [3,36] (.mx 0 [40] (.sg 1 [2] (.dn ?_)))))
          obtain rfl := Option.some.inj H
          exact .ret Try.func7 hc0
        ·
          refine .sg 2 [1,3] (.rg (.sg 1 [1,3,42] (bndO H fun x3 hv H => (.cp [1,3,43] (code_Decode_walk x.1 false x3 hv) (.sg 6 [1,3,5,6] (.dn (.sg 1 [1,3,5,6] (.rg (.sg 3 [1,3,5,48] (.sp 48 (x3.2 == 0) H (fun hb H => ?_) (fun hb H => ?_)))))))))))
          ·
            refine .sg 2 [1,5,48,49,50] (bndO H fun v hv H => (.ch [1,5,48,49,51] [] ((podestaref09_Encode_walk 70000) m1 v hv) (.cs [1,5,48,52] (podestaref01_Same_ok x.1 v false false) (.sg 2 [1,5,54] (.sp 54 (refSameB x.1 v) H (fun hb H => ?_) (fun hb H => ?_))))))
            ·
              refine .sg 4 [1,5,54,56,58] (bndO H fun x4 hv H => (.cp [1,5,54,59] (podestaref09_SameMsgs_walk [x3.1] [m1] true true x4 hv) (.sg 2 [1,5,61] (.mm 61 x4 4 [.pure, .pure, .read, .read] [65] 65 (fun z => .sc (.bool (z && (code_Same x3.1 m1)))) ?J3 (fun hb J => ?ht3) (fun hb J => ?hf3)))))
              case ht3 =>
                exact .sg 2 [61,62,63] (.cp [61,64] (code_Same_calls x3.1 m1) (.sg 1 [65] (.cl J)))
              case hf3 =>
                exact .sg 4 [65] (.cl J)
              refine .sg 1 [2] (.dn ?_)
              obtain rfl := Option.some.inj H
              exact .ret Try.func7 hc0
            ·
              refine .sg 12 [2] (.dn ?_)
              obtain rfl := Option.some.inj H
              exact .ret Try.func7 hc0
          ·
            refine .sg 18 [2] (.dn ?_)
            obtain rfl := Option.some.inj H
            exact .ret Try.func7 hc0

/-! ### podestalaw09.CodeReads: function 3 -/
noncomputable def podestalaw09_CodeReads_F : Go.Sh.Fn := ⟨3, bodyOf Try.f3, 54⟩
def podestalaw09_CodeReads_raw (b : List Int) : Option (Bool) :=
  (bif (decide ((((List.map (intA .u8) b).length : Nat) : Int) > 20000)) then
    some true
  else
    fitO (([] : List Int).length + b.length) 1 (
    (code_Decode_raw (([] : List Int) ++ b)).bind fun x =>
    (podestaref09_Decode_raw 70000 b).bind fun x1 =>
    (bif (x.2 != x1.2) then
      some false
    else
      (podestaref09_SameMsgs_raw [x.1] [x1.1]).bind fun x2 =>
      (bif (!x2) then
        some false
      else
        (bif (x.2 != 0) then
          some true
        else
          (code_Encode_raw x.1).bind fun x3 =>
          some ((x3.2 == 0) && (refSameB b x3.1)))))))
theorem podestalaw09_CodeReads_walk (b : List Int) (f_b : Bool) (r : Bool) (H : podestalaw09_CodeReads_raw b = some r) : ACalls Try.prog tab.S 3 [.sl 5 (List.map (intA .u8) b) f_b] [] (.sc (.bool r)) [] := by
  refine .of_AX podestalaw09_CodeReads_F Try.func3 fun c0 hc0 => ?_
  rw [podestalaw09_CodeReads_raw] at H
  refine .sg 5 [0,11] (.cd (decide ((((List.map (intA .u8) b).length : Nat) : Int) > 20000)) H (fun hb H => ?_) (fun hb H => ?_))
  ·
    refine .sg 1 [] (.rg (.cp [12] (podestalaw09_answers_ok) (.sg 1 [2] (.dn ?_))))
    obtain rfl := Option.some.inj H
    exact .ret Try.func3 hc0
  ·
    refine .sg 2 [0] (.rg (.sg 2 [0,14,15] (fitH H fun hfit H => (.ab [0,16] (intA .u8) hfit rfl (bndO H fun x hv H => (.cc [0,17] [0] (code_Decode_walk (([] : List Int) ++ b) false x hv) (.sg 6 [0,3,4] (.dn (.sg 1 [0,3,4] (.rg (.sg 1 [0,3,4,21] (bndO H fun x1 hv H => (.cp [0,3,4,22] ((podestaref09_Decode_walk 70000) b f_b x1 hv) (.sg 6 [0,3,4,5,6] (.dn (.sg 2 [0,3,4,5,6] (.rg (.cp [0,3,4,5,6,25] (podestalaw09_answers_ok) (.sg 7 [0,3,4,5,32] (.sp 32 (x.2 != x1.2) H (fun hb H => ?_) (fun hb H => ?_)))))))))))))))))))))
    ·
      refine .sg 7 [0,3,4,39] (.dn (.sg 3 [2] ?_))
      obtain rfl := Option.some.inj H
      exact .ret Try.func3 hc0
    ·
      refine .sg 4 [0,3,4,32,34,36] (bndO H fun x2 hv H => (.cp [0,3,4,32,37] (podestaref09_SameMsgs_walk [x.1] [x1.1] true true x2 hv) (.sg 2 [0,3,4,39] (.dn (.cd (!x2) H (fun hb H => ?_) (fun hb H => ?_))))))
      ·
        refine .sg 2 [2] ?_
        obtain rfl := Option.some.inj H
        exact .ret Try.func3 hc0
      ·
        refine .sg 4 [0,3,41] (.cd (x.2 != 0) H (fun hb H => ?_) (fun hb H => ?_))
        ·
          refine .sg 2 [2] ?_
          obtain rfl := Option.some.inj H
          exact .ret Try.func3 hc0
        ·
          refine .sg 2 [0,3] (.rg (.sg 1 [0,43] (bndO H fun x3 hv H => (.cp [0,44] (code_Encode_walk x.1 x3 hv) (.sg 5 [0,7,8] (.dn (.sg 1 [0,7,8] (.rg (.sg 3 [0,7,49] (.mm 49 (x3.2 == 0) 4 [.pure, .pure, .pure, .pure] [53] 53 (fun z => .sc (.bool (z && (refSameB b x3.1)))) ?J1 (fun hb J => ?ht1) (fun hb J => ?hf1)))))))))))
          case ht1 =>
            exact .sg 2 [49,50,51] (.cp [49,52] (podestaref01_Same_ok b x3.1 f_b false) (.sg 1 [53] (.cl J)))
          case hf1 =>
            exact .sg 4 [53] (.cl J)
          refine .sg 1 [2] (.dn ?_)
          obtain rfl := Option.some.inj H
          exact .ret Try.func3 hc0

/-! ### podestalaw09.CodeCut: function 4 -/
noncomputable def podestalaw09_CodeCut_F : Go.Sh.Fn := ⟨4, bodyOf Try.f4, 62⟩
def podestalaw09_CodeCut_raw (m1 : Msg) (n : Int) (more : List Int) : Option (Bool) :=
  (bif (!(podestalaw09_small m1)) then
    some true
  else
    (podestaref09_Msg_raw m1).bind fun x =>
    (bif (((!x) || ((((List.map (intA .u8) more).length : Nat) : Int) == 0)) || (decide ((((List.map (intA .u8) more).length : Nat) : Int) > 100))) then
      some true
    else
      (podestaref09_Encode_raw 70000 m1).bind fun v =>
      reqO ((((List.map (intA .u8) v).length : Nat) : Int) != 0) (
      (sliceO v none (some (Int.tmod (IntKind.i64.wrap n) (((List.map (intA .u8) v).length : Nat) : Int))) none).bind fun x1 =>
      (code_Decode_raw x1).bind fun x2 =>
      fitO (([] : List Int).length + v.length) 1 (
      fitO ((([] : List Int) ++ v).length + more.length) 1 (
      (code_Decode_raw ((([] : List Int) ++ v) ++ more)).bind fun x3 =>
      some ((x2.2 == 8) && (x3.2 == 2)))))))
theorem podestalaw09_CodeCut_walk (m1 : Msg) (n : Int) (more : List Int) (f_more : Bool) (r : Bool) (H : podestalaw09_CodeCut_raw m1 n more = some r) : ACalls Try.prog tab.S 4 [Msg.av m1, .sc (.int .u16 n), .sl 5 (List.map (intA .u8) more) f_more] [] (.sc (.bool r)) [] := by
  refine .of_AX podestalaw09_CodeCut_F Try.func4 fun c0 hc0 => ?_
  rw [podestalaw09_CodeCut_raw] at H
  refine .sg 4 [1,2,3] (.rg (.sg 1 [1,2,3,12] (.cp [1,2,3,13] (podestalaw09_small_calls m1) (.sg 2 [1,2,3,15] (.sp 15 (!(podestalaw09_small m1)) H (fun hb H => ?_) (fun hb H => ?_))))))
  ·
    refine .sg 14 [1,2,3,29] (.dn (.sg 2 [] (.rg (.cp [30] (podestalaw09_answers_ok) (.sg 1 [6] (.dn ?_))))))
    obtain rfl := Option.some.inj H
    exact .ret Try.func4 hc0
  ·
    refine .sg 1 [1,2,3,15,16] (bndO H fun x hv H => (.cp [1,2,3,15,17] (podestaref09_Msg_walk m1 x hv) (.sg 3 [1,2,3,20] (.mx 1 [1,2,3,24] (.sg 1 [1,2,3,25] (.mx 1 [1,2,3,29] (.dn (.cd (((!x) || ((((List.map (intA .u8) more).length : Nat) : Int) == 0)) || (decide ((((List.map (intA .u8) more).length : Nat) : Int) > 100))) H (fun hb H => ?_) (fun hb H => ?_)))))))))
    ·
      refine .sg 1 [] (.rg (.cp [30] (podestalaw09_answers_ok) (.sg 1 [6] (.dn ?_))))
      obtain rfl := Option.some.inj H
      exact .ret Try.func4 hc0
    ·
      refine .sg 2 [1,2,3] (.rg (.sg 1 [1,2,31] (bndO H fun v hv H => (.ch [1,2,32] [] ((podestaref09_Encode_walk 70000) m1 v hv) (.sg 1 [1,2,7] (.dn (.sg 1 [1,2,7] (.rg (.sg 5 [2,7,34,36,38] (reqH H fun hreq H => (.re [2,7,34,39] (b := (((List.map (intA .u8) v).length : Nat) : Int)) hreq (bndO H fun x1 hv H => (.gso [2,7,40] [1] (intA .u8) hv (bndO H fun x2 hv H => (.cp [2,7,41] (code_Decode_walk x1 false x2 hv) (.sg 6 [2,7,9] (.dn (.sg 1 [2,7,9] (.rg (.sg 2 [2,9,45,46] (fitH H fun hfit H => (.ab [2,9,47] (intA .u8) hfit rfl (.sg 1 [9,47,48] (fitH H fun hfit H => (.ap [9,49] (intA .u8) hfit (bndO H fun x3 hv H => (.cc [9,50] [3] (code_Decode_walk ((([] : List Int) ++ v) ++ more) false x3 hv) (.sg 6 [9,11] (.dn (.sg 1 [9,11] (.rg (.cp [9,11,53] (podestalaw09_answers_ok) (.sg 5 [11,58] (.mx 0 [61] (.sg 1 [6] (.dn ?_))))))))))))))))))))))))))))))))))))
      obtain rfl := Option.some.inj H
      exact .ret Try.func4 hc0

/-! ### podestalaw09.CodeSame: function 8 -/
noncomputable def podestalaw09_CodeSame_F : Go.Sh.Fn := ⟨8, bodyOf Try.f8, 52⟩
def podestalaw09_CodeSame_raw (a : Msg) (b : Msg) : Option (Bool) :=
  (bif ((!(podestalaw09_small a)) || (!(podestalaw09_small b))) then
    some true
  else
    (podestaref09_SameMsgs_raw [a] [b]).bind fun x =>
    (bif (((code_Same a b) != x) || (!(code_Same a a))) then
      some false
    else
      (podestaref09_Msg_raw a).bind fun x1 =>
      (bif (!x1) then
        some true
      else
        (podestaref09_Msg_raw b).bind fun x2 =>
        (bif (!x2) then
          some true
        else
          (podestaref09_Encode_raw 70000 a).bind fun v =>
          (podestaref09_Encode_raw 70000 b).bind fun v1 =>
          some ((refSameB v v1) == x)))))
theorem podestalaw09_CodeSame_walk (a : Msg) (b : Msg) (r : Bool) (H : podestalaw09_CodeSame_raw a b = some r) : ACalls Try.prog tab.S 8 [Msg.av a, Msg.av b] [] (.sc (.bool r)) [] := by
  refine .of_AX podestalaw09_CodeSame_F Try.func8 fun c0 hc0 => ?_
  rw [podestalaw09_CodeSame_raw] at H
  refine .sg 1 [0,1] (.rg (.bx [1,2] (.bx [2,3] (.sg 1 [2,3] (.dn (.sg 2 [2,3] (.rg (.sg 1 [2,3,6] (.cp [2,3,7] (podestalaw09_small_calls a) (.sg 2 [2,3,9] (.mm 9 (!(podestalaw09_small a)) 4 [.pure, .pure, .pure, .pure] [2, 3, 13] 13 (fun z => .sc (.bool (z || (!(podestalaw09_small b))))) ?J1 (fun hb J => ?ht1) (fun hb J => ?hf1))))))))))))
  case ht1 =>
    exact .sg 4 [2,3,13] (.cl J)
  case hf1 =>
    exact .sg 1 [2,3,9,10] (.cp [2,3,9,11] (podestalaw09_small_calls b) (.sg 2 [2,3,13] (.cl J)))
  refine .dn (.cd ((!(podestalaw09_small a)) || (!(podestalaw09_small b))) H (fun hb H => ?_) (fun hb H => ?_))
  ·
    refine .sg 1 [] (.rg (.cp [14] (podestalaw09_answers_ok) (.sg 1 [4] (.dn ?_))))
    obtain rfl := Option.some.inj H
    exact .ret Try.func8 hc0
  ·
    refine .sg 2 [2,3] (.rg (.sg 4 [2,3,16,18] (bndO H fun x hv H => (.cp [2,3,19] (podestaref09_SameMsgs_walk [a] [b] true true x hv) (.sg 1 [2,3,5] (.dn (.sg 2 [2,3,5] (.rg (.cp [2,3,5,20] (podestalaw09_answers_ok) (.sg 4 [2,3,5,22,23,24] (.cp [2,3,5,22,25] (code_Same_calls a b) (.sg 4 [2,3,5,29] (.mm 29 ((code_Same a b) != x) 5 [.pure, .pure, .pure, .pure, .pure] [2, 3, 5, 34] 34 (fun z => .sc (.bool (z || (!(code_Same a a))))) ?J2 (fun hb J => ?ht2) (fun hb J => ?hf2))))))))))))))
    case ht2 =>
      exact .sg 5 [2,3,5,34] (.cl J)
    case hf2 =>
      exact .sg 2 [2,3,5,29,30,31] (.cp [2,3,5,29,32] (code_Same_calls a a) (.sg 2 [2,3,5,34] (.cl J)))
    refine .dn (.cd (((code_Same a b) != x) || (!(code_Same a a))) H (fun hb H => ?_) (fun hb H => ?_))
    ·
      refine .sg 2 [4] ?_
      obtain rfl := Option.some.inj H
      exact .ret Try.func8 hc0
    ·
      refine .sg 2 [2,3,5] (.rg (.sg 1 [2,3,5,35] (bndO H fun x1 hv H => (.cp [2,3,5,36] (podestaref09_Msg_walk a x1 hv) (.sg 2 [2,3,5,38] (.sp 38 (!x1) H (fun hb H => ?_) (fun hb H => ?_)))))))
      ·
        refine .sg 14 [4] (.dn ?_)
        obtain rfl := Option.some.inj H
        exact .ret Try.func8 hc0
      ·
        refine .sg 1 [2,3,5,38,39] (bndO H fun x2 hv H => (.cp [2,3,5,38,40] (podestaref09_Msg_walk b x2 hv) (.sg 3 [2,3,5,43] (.sp 43 (!x2) H (fun hb H => ?_) (fun hb H => ?_)))))
        ·
          refine .sg 9 [4] (.dn ?_)
          obtain rfl := Option.some.inj H
          exact .ret Try.func8 hc0
        ·
          refine .sg 1 [3,5,43,44] (bndO H fun v hv H => (.ch [3,5,43,45] [] ((podestaref09_Encode_walk 70000) a v hv) (.sg 1 [5,43,45,46] (bndO H fun v1 hv H => (.ch [5,43,45,47] [] ((podestaref09_Encode_walk 70000) b v1 hv) (.cs [5,43,48] (podestaref01_Same_ok v v1 false false) (.sg 4 [4] (.dn ?_))))))))
          obtain rfl := Option.some.inj H
          exact .ret Try.func8 hc0

/-! ### podestalaw09.CodeTurned: function 6 -/
noncomputable def podestalaw09_CodeTurned_F : Go.Sh.Fn := ⟨6, bodyOf Try.f6, 69⟩
def podestalaw09_CodeTurned_raw (m1 : Msg) (at_ : Int) (c : Int) : Option (Bool) :=
  (bif (!(podestalaw09_small m1)) then
    some true
  else
    (podestaref09_Msg_raw m1).bind fun x =>
    (bif (!x) then
      some true
    else
      (podestaref09_Encode_raw 70000 m1).bind fun v =>
      reqO ((((List.map (intA .u8) v).length : Nat) : Int) != 0) (
      (ixO v (Int.tmod (IntKind.i64.wrap at_) (((List.map (intA .u8) v).length : Nat) : Int))).bind fun x1 =>
      (code_Decode_raw (v.set ((Int.tmod (IntKind.i64.wrap at_) (((List.map (intA .u8) v).length : Nat) : Int)).toNat) c)).bind fun x2 =>
      (bif (x1 == c) then
        (bif (x2.2 == 0) then
          (podestaref09_SameMsgs_raw [x2.1] [m1]).bind fun x3 =>
          some x3
        else
          some false)
      else
        (bif (x2.2 != 0) then
          some true
        else
          (podestaref09_SameMsgs_raw [x2.1] [m1]).bind fun x4 =>
          some (!x4))))))
theorem podestalaw09_CodeTurned_walk (m1 : Msg) (at_ : Int) (c : Int) (r : Bool) (H : podestalaw09_CodeTurned_raw m1 at_ c = some r) : ACalls Try.prog tab.S 6 [Msg.av m1, .sc (.int .u16 at_), .sc (.int .u8 c)] [] (.sc (.bool r)) [] := by
  refine .of_AX podestalaw09_CodeTurned_F Try.func6 fun c0 hc0 => ?_
  rw [podestalaw09_CodeTurned_raw] at H
  refine .sg 4 [1,2,3] (.rg (.sg 1 [1,2,3,12] (.cp [1,2,3,13] (podestalaw09_small_calls m1) (.sg 2 [1,2,3,15] (.sp 15 (!(podestalaw09_small m1)) H (fun hb H => ?_) (fun hb H => ?_))))))
  ·
    refine .sg 4 [1,2,3,19] (.dn (.sg 2 [] (.rg (.cp [20] (podestalaw09_answers_ok) (.sg 1 [6] (.dn ?_))))))
    obtain rfl := Option.some.inj H
    exact .ret Try.func6 hc0
  ·
    refine .sg 1 [1,2,3,15,16] (bndO H fun x hv H => (.cp [1,2,3,15,17] (podestaref09_Msg_walk m1 x hv) (.sg 2 [1,2,3,19] (.dn (.cd (!x) H (fun hb H => ?_) (fun hb H => ?_))))))
    ·
      refine .sg 1 [] (.rg (.cp [20] (podestalaw09_answers_ok) (.sg 1 [6] (.dn ?_))))
      obtain rfl := Option.some.inj H
      exact .ret Try.func6 hc0
    ·
      refine .sg 2 [1,2,3] (.rg (.sg 1 [1,2,3,21] (bndO H fun v hv H => (.ch [1,2,3,22] [] ((podestaref09_Encode_walk 70000) m1 v hv) (.sg 1 [1,2,3,7] (.dn (.sg 1 [1,2,3,7] (.rg (.sg 4 [2,3,7,24,26] (reqH H fun hreq H => (.re [2,3,7,27] (b := (((List.map (intA .u8) v).length : Nat) : Int)) hreq (.sg 1 [2,3,7,8] (.dn (.sg 1 [2,3,7,8] (.rg (.sg 2 [2,3,7,8,28,29] (bndO H fun x1 hv_x1 H => (.xo [2,3,7,8,30] (ixO_req hv_x1 (intA .u8)) (.lo [2,3,7,8,31] (ixO_map hv_x1 (intA .u8)).2 (.sg 1 [2,3,7,8,9] (.dn (.sg 1 [2,3,7,8,9] (.rg (.sg 3 [2,3,7,9,32,33,34] (.xo [2,3,7,9,34,35] (ixO_req hv_x1 (intA .u8)) (.st [2,3,7,9] (intA .u8) c (ixO_map hv_x1 (intA .u8)).2 (.dn (.sg 1 [2,3,7,9] (.rg (.sg 1 [2,3,9,37] (bndO H fun x2 hv H => (.cc [2,3,9,38] [1] (code_Decode_walk (v.set ((Int.tmod (IntKind.i64.wrap at_) (((List.map (intA .u8) v).length : Nat) : Int)).toNat) c) false x2 hv) (.sg 6 [2,3,9,10,11] (.dn (.sg 3 [3,10,11,43] (.cd (x1 == c) H (fun hb H => ?_) (fun hb H => ?_)))))))))))))))))))))))))))))))))))))
      ·
        refine .sg 1 [3,10,11] (.rg (.cp [3,10,11,44] (podestalaw09_answers_ok) (.sg 5 [3,10,49] (.sp 49 (x2.2 == 0) H (fun hb H => ?_) (fun hb H => ?_)))))
        ·
          refine .sg 4 [49,51,53] (bndO H fun x3 hv H => (.cp [49,54] (podestaref09_SameMsgs_walk [x2.1] [m1] true true x3 hv) (.sg 2 [6] (.dn ?_))))
          obtain rfl := Option.some.inj H
          exact .ret Try.func6 hc0
        ·
          refine .sg 7 [6] (.dn ?_)
          obtain rfl := Option.some.inj H
          exact .ret Try.func6 hc0
      ·
        refine .sg 2 [3,10,11] (.rg (.cp [3,10,11,56] (podestalaw09_answers_ok) (.sg 4 [3,10,57,60] (.sp 60 (x2.2 != 0) H (fun hb H => ?_) (fun hb H => ?_)))))
        ·
          refine .sg 9 [6] (.dn ?_)
          obtain rfl := Option.some.inj H
          exact .ret Try.func6 hc0
        ·
          refine .sg 4 [57,60,62,64] (bndO H fun x4 hv H => (.cp [57,60,65] (podestaref09_SameMsgs_walk [x2.1] [m1] true true x4 hv) (.sg 4 [6] (.dn ?_))))
          obtain rfl := Option.some.inj H
          exact .ret Try.func6 hc0

end Go.Proofs.Ythfidfjogecnpaa

import Derived.Test.YtadolbhmdimbkaaM3RuleSame
set_option linter.unusedVariables false
set_option linter.unusedSimpArgs false
set_option maxRecDepth 100000
set_option maxHeartbeats 4000000
namespace Go.Proofs.Ytadolbhmdimbkaa
open Go.Sh
theorem Act.beq_eq (x y : Act) : ((x.Kind == y.Kind) && ((x.Port == y.Port) && ((x.Field == y.Field) && (x.Value == y.Value)))) = (x == y) := by
  rw [Bool.eq_iff_iff]
  simp only [Bool.and_eq_true, beq_iff_eq]
  cases x; cases y
  simp

/-! ### slices.Equal: function 74 -/
noncomputable def slices_Equal__api_Act_F : Go.Sh.Fn := ⟨74, bodyOf Try.f74, 26⟩
def slices_Equal__api_Act_k0 : List Kd := [.pure, .pure, .pure, .pure, .pure, .pure, .pure, .pure, .pure]
def slices_Equal__api_Act_l0s (s2 : List Act) : List Act → Nat → Option (Sum (Unit) (Bool))
  | [], t13 =>
    some (.inl ())
  | x :: rest, t13 =>
    (ixO s2 ((t13 : Nat) : Int)).bind fun x1 =>
    (bif (!((x.Kind == x1.Kind) && ((x.Port == x1.Port) && ((x.Field == x1.Field) && (x.Value == x1.Value))))) then
      some (.inr false)
    else
      slices_Equal__api_Act_l0s s2 rest (t13 + 1) )
theorem slices_Equal__api_Act_l0_walk (s1 : List Act) (s2 : List Act) (f_s1 : Bool) (f_s2 : Bool) (r : Bool) (c0 : Ctx) (hc0 : c0.m.length = 0) (res : Sum (Unit) (Bool)) (J : ∀ w : Unit, res = .inl w → AR Try.prog tab slices_Equal__api_Act_F c0 (Rp tab.S c0 (.sc (.bool r)) []) [.code [1, 1, 1]] [] []) (Jr : ∀ w, res = .inr w → w = r) :
    ∀ (rest : List Act) (t13 : Nat) (hd : s1.drop t13 = rest) (H : slices_Equal__api_Act_l0s s2 rest t13 = some res), AR Try.prog tab slices_Equal__api_Act_F c0 (Rp tab.S c0 (.sc (.bool r)) []) [.code [1, 1, 0, 1, 0, 0], .loop [1, 1, 0, 1, 0], .blk 0, .code [1, 1, 1]] [(0, .sl 42 (List.map Act.av s1) f_s1), (1, .sl 42 (List.map Act.av s2) f_s2), (12, .sc (.int .i64 (((List.map Act.av s1).length : Nat) : Int))), (13, .sc (.int .i64 ((t13 : Nat) : Int)))] [] := by
  have hG := tab_ok
  have hm := mixed
  intro rest
  induction rest with
  | nil =>
    intro t13 hd  H
    rw [slices_Equal__api_Act_l0s] at H
    refine AR.facts 0 rfl fun hf => ?_
    have hlen : s1.length ≤ 9223372036854775807 := by have hq := len_ok hf.2.1; rw [List.length_map] at hq; exact hq
    have hge : s1.length ≤ t13 := List.drop_eq_nil_iff.1 hd
    have hc : (decide (((t13 : Nat) : Int) < (((List.map Act.av s1).length : Nat) : Int))) = false := by rw [List.length_map]; exact decide_eq_false (by omega)
    refine AR.seg hG hm 3 [0, 1, 12, 13, 14] (k' := [.code [1, 1, 0, 1, 0, 0, 1, 0], .code [1, 1, 0, 1, 0, 0, 1, 1], .loop [1, 1, 0, 1, 0], .blk 0, .code [1, 1, 1]]) (t' := [(0, .sl 42 (List.map Act.av s1) f_s1), (1, .sl 42 (List.map Act.av s2) f_s2), (12, .sc (.int .i64 (((List.map Act.av s1).length : Nat) : Int))), (13, .sc (.int .i64 ((t13 : Nat) : Int))), (14, .sc (.bool (decide (((t13 : Nat) : Int) < (((List.map Act.av s1).length : Nat) : Int)))))]) (h' := []) (by kernel_rfl) ?_
    refine AR.cond (.tmp 14) (decide (((t13 : Nat) : Int) < (((List.map Act.av s1).length : Nat) : Int))) (by kernel_rfl) (by kernel_rfl) (fun hb => ?ht8) (fun hb => ?hf8)
    case ht8 => exact absurd (hb.symm.trans hc) (by decide)
    case hf8 =>
      refine AR.seg hG hm 1 [] (k' := [.code [1, 1, 1]]) (t' := []) (h' := []) (by kernel_rfl) ?_
      refine AR.keep [] (t' := []) (by kernel_rfl) ?_
      exact J () (Option.some.inj H).symm
  | cons x rest ih =>
    intro t13 hd  H
    rw [slices_Equal__api_Act_l0s] at H
    refine AR.facts 0 rfl fun hf => ?_
    have hlen : s1.length ≤ 9223372036854775807 := by have hq := len_ok hf.2.1; rw [List.length_map] at hq; exact hq
    obtain ⟨hlt, hv_t13, hd2⟩ := drop_cons hd
    have hc : (decide (((t13 : Nat) : Int) < (((List.map Act.av s1).length : Nat) : Int))) = true := by rw [List.length_map]; exact decide_eq_true (by omega)
    have hw : IntKind.i64.wrap (((t13 : Nat) : Int) + 1) = ((t13 + 1 : Nat) : Int) := wrapI_succ (by omega)
    refine AR.seg hG hm 3 [0, 1, 12, 13, 14] (k' := [.code [1, 1, 0, 1, 0, 0, 1, 0], .code [1, 1, 0, 1, 0, 0, 1, 1], .loop [1, 1, 0, 1, 0], .blk 0, .code [1, 1, 1]]) (t' := [(0, .sl 42 (List.map Act.av s1) f_s1), (1, .sl 42 (List.map Act.av s2) f_s2), (12, .sc (.int .i64 (((List.map Act.av s1).length : Nat) : Int))), (13, .sc (.int .i64 ((t13 : Nat) : Int))), (14, .sc (.bool (decide (((t13 : Nat) : Int) < (((List.map Act.av s1).length : Nat) : Int)))))]) (h' := []) (by kernel_rfl) ?_
    refine AR.cond (.tmp 14) (decide (((t13 : Nat) : Int) < (((List.map Act.av s1).length : Nat) : Int))) (by kernel_rfl) (by kernel_rfl) (fun hb => ?ht9) (fun hb => ?hf9)
    case ht9 =>
      refine AR.seg hG hm 6 [0, 1, 5, 12, 13] (k' := [.code [1, 1, 0, 1, 0, 0, 1, 1, 0, 0, 1, 0], .code [1, 1, 0, 1, 0, 0, 1, 1, 0, 0, 1, 1], .blk 1, .code [1, 1, 0, 1, 0, 0, 1, 1, 1], .loop [1, 1, 0, 1, 0], .blk 0, .code [1, 1, 1]]) (t' := [(0, .sl 42 (List.map Act.av s1) f_s1), (1, .sl 42 (List.map Act.av s2) f_s2), (5, .sc (.int .i64 ((t13 : Nat) : Int))), (12, .sc (.int .i64 (((List.map Act.av s1).length : Nat) : Int))), (13, .sc (.int .i64 ((t13 : Nat) : Int)))]) (h' := []) (by kernel_rfl) ?_
      refine AR.reg hm slices_Equal__api_Act_k0 (by kernel_rfl) ?_
      refine DK.seg hG 2 [0, 1, 5, 12, 13, 16, 17] (t' := [(0, .sl 42 (List.map Act.av s1) f_s1), (1, .sl 42 (List.map Act.av s2) f_s2), (5, .sc (.int .i64 ((t13 : Nat) : Int))), (12, .sc (.int .i64 (((List.map Act.av s1).length : Nat) : Int))), (13, .sc (.int .i64 ((t13 : Nat) : Int))), (16, .sl 42 (List.map Act.av s1) f_s1), (17, .sc (.int .i64 ((t13 : Nat) : Int)))]) (h' := []) (by kernel_rfl) rfl ?_
      refine DK.op' [0, 1, 5, 12, 13, 18] (t' := [(0, .sl 42 (List.map Act.av s1) f_s1), (1, .sl 42 (List.map Act.av s2) f_s2), (5, .sc (.int .i64 ((t13 : Nat) : Int))), (12, .sc (.int .i64 (((List.map Act.av s1).length : Nat) : Int))), (13, .sc (.int .i64 ((t13 : Nat) : Int))), (18, .ep [.sc (.int .i64 x.Kind), .sc (.int .i64 x.Port), .sc (.int .i64 x.Field), .sc (.int .u64 x.Value)] 0 none)]) (h' := []) (LSpec.index' (r := Act.av x) (fs := [.sc (.int .i64 x.Kind), .sc (.int .i64 x.Port), .sc (.int .i64 x.Field), .sc (.int .u64 x.Value)]) hG (rows := List.map Act.av s1) (j := ((t13 : Nat) : Int)) (by kernel_rfl) (ixO_map hv_t13 _) (by kernel_rfl)) (by kernel_rfl) rfl (by kernel_rfl) rfl ?_
      refine DK.seg hG 3 [0, 1, 12, 13, 19, 20, 21] (t' := [(0, .sl 42 (List.map Act.av s1) f_s1), (1, .sl 42 (List.map Act.av s2) f_s2), (12, .sc (.int .i64 (((List.map Act.av s1).length : Nat) : Int))), (13, .sc (.int .i64 ((t13 : Nat) : Int))), (19, Act.av x), (20, .sl 42 (List.map Act.av s2) f_s2), (21, .sc (.int .i64 ((t13 : Nat) : Int)))]) (h' := []) (by kernel_rfl) rfl ?_
      obtain ⟨x1, hv, H⟩ := Option.bind_eq_some_iff.1 H
      refine DK.op' [0, 1, 12, 13, 19, 22] (t' := [(0, .sl 42 (List.map Act.av s1) f_s1), (1, .sl 42 (List.map Act.av s2) f_s2), (12, .sc (.int .i64 (((List.map Act.av s1).length : Nat) : Int))), (13, .sc (.int .i64 ((t13 : Nat) : Int))), (19, Act.av x), (22, .ep [.sc (.int .i64 x1.Kind), .sc (.int .i64 x1.Port), .sc (.int .i64 x1.Field), .sc (.int .u64 x1.Value)] 0 none)]) (h' := []) (LSpec.index' (r := Act.av x1) (fs := [.sc (.int .i64 x1.Kind), .sc (.int .i64 x1.Port), .sc (.int .i64 x1.Field), .sc (.int .u64 x1.Value)]) hG (rows := List.map Act.av s2) (j := ((t13 : Nat) : Int)) (by kernel_rfl) (ixO_map hv _) (by kernel_rfl)) (by kernel_rfl) rfl (by kernel_rfl) rfl ?_
      refine DK.seg hG 1 [0, 1, 12, 13, 19, 23] (t' := [(0, .sl 42 (List.map Act.av s1) f_s1), (1, .sl 42 (List.map Act.av s2) f_s2), (12, .sc (.int .i64 (((List.map Act.av s1).length : Nat) : Int))), (13, .sc (.int .i64 ((t13 : Nat) : Int))), (19, Act.av x), (23, Act.av x1)]) (h' := []) (by kernel_rfl) rfl ?_
      refine DK.op' [0, 1, 12, 13, 24] (t' := [(0, .sl 42 (List.map Act.av s1) f_s1), (1, .sl 42 (List.map Act.av s2) f_s2), (12, .sc (.int .i64 (((List.map Act.av s1).length : Nat) : Int))), (13, .sc (.int .i64 ((t13 : Nat) : Int))), (24, .sc (.bool (!((x.Kind == x1.Kind) && ((x.Port == x1.Port) && ((x.Field == x1.Field) && (x.Value == x1.Value)))))))]) (h' := []) (LSpec.eq' 9 (r := (!((x.Kind == x1.Kind) && ((x.Port == x1.Port) && ((x.Field == x1.Field) && (x.Value == x1.Value)))))) (by kernel_rfl)) (by kernel_rfl) rfl (by kernel_rfl) rfl ?_
      refine DK.done (by kernel_rfl) (by kernel_rfl) ?_
      refine AR.cond (.tmp 24) (!((x.Kind == x1.Kind) && ((x.Port == x1.Port) && ((x.Field == x1.Field) && (x.Value == x1.Value))))) (by kernel_rfl) (by kernel_rfl) (fun hb => ?ht10) (fun hb => ?hf10)
      case ht10 =>
        replace H := cond_t hb H
        refine AR.seg hG hm 2 [4] (k' := [.code [1, 1, 0, 1, 0, 0, 1, 1, 0, 0, 1, 1, 0, 1], .blk 1, .code [1, 1, 0, 1, 0, 0, 1, 1, 1], .loop [1, 1, 0, 1, 0], .blk 0, .code [1, 1, 1]]) (t' := [(4, .sc (.bool false))]) (h' := []) (by kernel_rfl) ?_
        obtain rfl := Option.some.inj H
        obtain rfl := Jr _ rfl
        exact AR.ret0 (fn := Try.f74) hG Try.func74 (by kernel_rfl) hc0 (r0 := .sc (.bool false)) (by kernel_rfl) (WkV.refl _)
      case hf10 =>
        replace H := cond_f hb H
        refine AR.seg hG hm 3 [0, 1, 12, 13] (k' := [.loop [1, 1, 0, 1, 0], .blk 0, .code [1, 1, 1]]) (t' := [(0, .sl 42 (List.map Act.av s1) f_s1), (1, .sl 42 (List.map Act.av s2) f_s2), (12, .sc (.int .i64 (((List.map Act.av s1).length : Nat) : Int))), (13, .sc (.int .i64 (IntKind.i64.wrap (((t13 : Nat) : Int) + 1))))]) (h' := []) (by kernel_rfl) ?_
        refine AR.keep [0, 1, 12, 13] (t' := [(0, .sl 42 (List.map Act.av s1) f_s1), (1, .sl 42 (List.map Act.av s2) f_s2), (12, .sc (.int .i64 (((List.map Act.av s1).length : Nat) : Int))), (13, .sc (.int .i64 (IntKind.i64.wrap (((t13 : Nat) : Int) + 1))))]) (by kernel_rfl) ?_
        refine AR.loop_round ?_
        rw [hw]
        exact ih (t13 + 1) hd2 H
    case hf9 => exact absurd (hc.symm.trans hb) (by decide)

def slices_Equal__api_Act_raw (s1 : List Act) (s2 : List Act) : Option (Bool) :=
  (bif ((((List.map Act.av s1).length : Nat) : Int) != (((List.map Act.av s2).length : Nat) : Int)) then
    some false
  else
    loopO (slices_Equal__api_Act_l0s s2 s1 0) fun v =>
    some true)
theorem slices_Equal__api_Act_walk (s1 : List Act) (s2 : List Act) (f_s1 : Bool) (f_s2 : Bool) (r : Bool) (H : slices_Equal__api_Act_raw s1 s2 = some r) :
    ACalls Try.prog tab.S 74 [.sl 42 (List.map Act.av s1) f_s1, .sl 42 (List.map Act.av s2) f_s2] [] (.sc (.bool r)) [] := by
  have hG := tab_ok
  have hm := mixed
  refine ACalls.of_AR (G := tab) slices_Equal__api_Act_F (fn := Try.f74) Try.func74 (by kernel_rfl) (by kernel_rfl) (by kernel_rfl) (Nat.le_of_ble_eq_true (by kernel_rfl)) ?_
  intro c0 hc0
  replace hc0 : c0.m.length = 0 := hc0
  rw [slices_Equal__api_Act_raw] at H
  refine AR.seg hG hm 5 [0, 1, 10] (k' := [.code [1, 0, 1], .code [1, 1]]) (t' := [(0, .sl 42 (List.map Act.av s1) f_s1), (1, .sl 42 (List.map Act.av s2) f_s2), (10, .sc (.bool ((((List.map Act.av s1).length : Nat) : Int) != (((List.map Act.av s2).length : Nat) : Int))))]) (h' := []) (by kernel_rfl) ?_
  refine AR.cond (.tmp 10) ((((List.map Act.av s1).length : Nat) : Int) != (((List.map Act.av s2).length : Nat) : Int)) (by kernel_rfl) (by kernel_rfl) (fun hb => ?ht1) (fun hb => ?hf1)
  case ht1 =>
    replace H := cond_t hb H
    refine AR.seg hG hm 2 [4] (k' := [.code [1, 0, 1, 0, 1], .code [1, 1]]) (t' := [(4, .sc (.bool false))]) (h' := []) (by kernel_rfl) ?_
    obtain rfl := Option.some.inj H
    exact AR.ret0 (fn := Try.f74) hG Try.func74 (by kernel_rfl) hc0 (r0 := .sc (.bool false)) (by kernel_rfl) (WkV.refl _)
  case hf1 =>
    replace H := cond_f hb H
    refine AR.seg hG hm 5 [0, 1, 12, 13] (k' := [.code [1, 1, 0, 1, 0], .blk 0, .code [1, 1, 1]]) (t' := [(0, .sl 42 (List.map Act.av s1) f_s1), (1, .sl 42 (List.map Act.av s2) f_s2), (12, .sc (.int .i64 (((List.map Act.av s1).length : Nat) : Int))), (13, .sc (.int .i64 0))]) (h' := []) (by kernel_rfl) ?_
    rcases loopO_some H with ⟨v, hv, H⟩ | hv
    case inr =>
      refine AR.into (by kernel_rfl) ?_
      exact slices_Equal__api_Act_l0_walk s1 s2 f_s1 f_s2 _ c0 hc0 (.inr _) (fun _ e => by cases e) (fun _ e => (Sum.inr.inj e).symm) s1 0 rfl hv
    refine AR.into (by kernel_rfl) ?_
    refine slices_Equal__api_Act_l0_walk s1 s2 f_s1 f_s2 r c0 hc0 (.inl v) (fun w e => ?_) (fun _ e => by cases e) s1 0 rfl hv
    have e := Sum.inl.inj e
    subst e
    refine AR.seg hG hm 2 [4] (k' := [.code [1, 1, 1, 1]]) (t' := [(4, .sc (.bool true))]) (h' := []) (by kernel_rfl) ?_
    obtain rfl := Option.some.inj H
    exact AR.ret0 (fn := Try.f74) hG Try.func74 (by kernel_rfl) hc0 (r0 := .sc (.bool true)) (by kernel_rfl) (WkV.refl _)

theorem slices_Equal__api_Act_ok (a b : List Act) (f_a f_b : Bool) : ACalls Try.prog tab.S 74 [.sl 42 (List.map Act.av a) f_a, .sl 42 (List.map Act.av b) f_b] [] (.sc (.bool (a == b))) [] := by
  refine slices_Equal__api_Act_walk a b f_a f_b _ ?_
  rw [slices_Equal__api_Act_raw, len_bne]
  by_cases h : a.length = b.length
  · simp only [h, decide_true, Bool.not_true, cond_false]
    rw [cmp_loop (v := false) (slices_Equal__api_Act_l0s b) b (fun x y => x == y) (fun _ => rfl) (fun x r i => by rw [slices_Equal__api_Act_l0s]; simp only [Act.beq_eq]) a 0 (by omega), List.drop_zero, zipAll_beq]
    cases a == b <;> rfl
  · have e : (a == b) = false := by
      rw [beq_eq_false_iff_ne]
      intro e
      exact h (by rw [e])
    rw [e]
    simp only [h, decide_false, Bool.not_false, cond_true]

/-! ### act.Same: function 63 -/
noncomputable def act_Same_F : Go.Sh.Fn := ⟨63, bodyOf Try.f63, 8⟩
def act_Same_k0 : List Kd := [.pure, .pure, .pure, .pure]
def act_Same (a : List Act) (b : List Act) : Bool :=
  (a == b)
theorem act_Same_walk (a : List Act) (b : List Act) (f_a : Bool) (f_b : Bool) (r : Bool) (H : act_Same a b = r) :
    ACalls Try.prog tab.S 63 [.sl 42 (List.map Act.av a) f_a, .sl 42 (List.map Act.av b) f_b] [] (.sc (.bool r)) [] := by
  have hG := tab_ok
  have hm := mixed
  refine ACalls.of_AR (G := tab) act_Same_F (fn := Try.f63) Try.func63 (by kernel_rfl) (by kernel_rfl) (by kernel_rfl) (Nat.le_of_ble_eq_true (by kernel_rfl)) ?_
  intro c0 hc0
  replace hc0 : c0.m.length = 0 := hc0
  rw [act_Same] at H
  refine AR.seg hG hm 3 [0, 1] (k' := [.code [1, 0], .code [1, 1]]) (t' := [(0, .sl 42 (List.map Act.av a) f_a), (1, .sl 42 (List.map Act.av b) f_b)]) (h' := []) (by kernel_rfl) ?_
  refine AR.reg hm act_Same_k0 (by kernel_rfl) ?_
  refine DK.seg hG 2 [5, 6] (t' := [(5, .sl 42 (List.map Act.av a) f_a), (6, .sl 42 (List.map Act.av b) f_b)]) (h' := []) (by kernel_rfl) rfl ?_
  refine DK.op' [7] (t' := [(7, .sc (.bool (a == b)))]) (h' := []) (LSpec.callP' (slices_Equal__api_Act_ok a b f_a f_b) (by kernel_rfl)) (by kernel_rfl) rfl (by kernel_rfl) rfl ?_
  refine DK.seg hG 1 [4] (t' := [(4, .sc (.bool (a == b)))]) (h' := []) (by kernel_rfl) rfl ?_
  refine DK.done (by kernel_rfl) (by kernel_rfl) ?_
  subst H
  exact AR.ret0 (fn := Try.f63) hG Try.func63 (by kernel_rfl) hc0 (r0 := .sc (.bool (a == b))) (by kernel_rfl) (WkV.refl _)
theorem act_Same_calls (a : List Act) (b : List Act) (f_a : Bool) (f_b : Bool) : ACalls Try.prog tab.S 63 [.sl 42 (List.map Act.av a) f_a, .sl 42 (List.map Act.av b) f_b] [] (.sc (.bool (act_Same a b))) [] := act_Same_walk a b f_a f_b _ rfl

/-! ### podestaref04.SameActs: function 64 -/
noncomputable def podestaref04_SameActs_F : Go.Sh.Fn := ⟨64, bodyOf Try.f64, 26⟩
def podestaref04_SameActs_k0 : List Kd := [.pure, .pure, .pure, .pure, .pure, .pure, .pure, .pure, .pure]
def podestaref04_SameActs_l0s (b : List Act) : List Act → Nat → Option (Sum (Unit) (Bool))
  | [], i =>
    some (.inl ())
  | x :: rest, i =>
    (ixO b ((i : Nat) : Int)).bind fun x1 =>
    (bif (!((x.Kind == x1.Kind) && ((x.Port == x1.Port) && ((x.Field == x1.Field) && (x.Value == x1.Value))))) then
      some (.inr false)
    else
      podestaref04_SameActs_l0s b rest (i + 1) )
theorem podestaref04_SameActs_l0_walk (a : List Act) (b : List Act) (f_a : Bool) (f_b : Bool) (r : Bool) (c0 : Ctx) (hc0 : c0.m.length = 0) (res : Sum (Unit) (Bool)) (J : ∀ w : Unit, res = .inl w → AR Try.prog tab podestaref04_SameActs_F c0 (Rp tab.S c0 (.sc (.bool r)) []) [.code [1, 1, 1]] [] []) (Jr : ∀ w, res = .inr w → w = r) :
    ∀ (rest : List Act) (i : Nat) (hd : a.drop i = rest) (H : podestaref04_SameActs_l0s b rest i = some res), AR Try.prog tab podestaref04_SameActs_F c0 (Rp tab.S c0 (.sc (.bool r)) []) [.code [1, 1, 0, 1, 0, 0], .loop [1, 1, 0, 1, 0], .blk 0, .code [1, 1, 1]] [(0, .sl 42 (List.map Act.av a) f_a), (1, .sl 42 (List.map Act.av b) f_b), (5, .sc (.int .i64 ((i : Nat) : Int)))] [] := by
  have hG := tab_ok
  have hm := mixed
  intro rest
  induction rest with
  | nil =>
    intro i hd  H
    rw [podestaref04_SameActs_l0s] at H
    refine AR.facts 0 rfl fun hf => ?_
    have hlen : a.length ≤ 9223372036854775807 := by have hq := len_ok hf.2.1; rw [List.length_map] at hq; exact hq
    have hge : a.length ≤ i := List.drop_eq_nil_iff.1 hd
    have hc : (decide (((i : Nat) : Int) < (((List.map Act.av a).length : Nat) : Int))) = false := by rw [List.length_map]; exact decide_eq_false (by omega)
    refine AR.seg hG hm 3 [0, 1, 5, 14] (k' := [.code [1, 1, 0, 1, 0, 0, 0, 1], .code [1, 1, 0, 1, 0, 0, 1], .loop [1, 1, 0, 1, 0], .blk 0, .code [1, 1, 1]]) (t' := [(0, .sl 42 (List.map Act.av a) f_a), (1, .sl 42 (List.map Act.av b) f_b), (5, .sc (.int .i64 ((i : Nat) : Int))), (14, .sc (.bool (decide (((i : Nat) : Int) < (((List.map Act.av a).length : Nat) : Int)))))]) (h' := []) (by kernel_rfl) ?_
    refine AR.cond (.tmp 14) (decide (((i : Nat) : Int) < (((List.map Act.av a).length : Nat) : Int))) (by kernel_rfl) (by kernel_rfl) (fun hb => ?ht8) (fun hb => ?hf8)
    case ht8 => exact absurd (hb.symm.trans hc) (by decide)
    case hf8 =>
      refine AR.seg hG hm 1 [] (k' := [.code [1, 1, 1]]) (t' := []) (h' := []) (by kernel_rfl) ?_
      refine AR.keep [] (t' := []) (by kernel_rfl) ?_
      exact J () (Option.some.inj H).symm
  | cons x rest ih =>
    intro i hd  H
    rw [podestaref04_SameActs_l0s] at H
    refine AR.facts 0 rfl fun hf => ?_
    have hlen : a.length ≤ 9223372036854775807 := by have hq := len_ok hf.2.1; rw [List.length_map] at hq; exact hq
    obtain ⟨hlt, hv_i, hd2⟩ := drop_cons hd
    have hc : (decide (((i : Nat) : Int) < (((List.map Act.av a).length : Nat) : Int))) = true := by rw [List.length_map]; exact decide_eq_true (by omega)
    have hw : IntKind.i64.wrap (((i : Nat) : Int) + 1) = ((i + 1 : Nat) : Int) := wrapI_succ (by omega)
    refine AR.seg hG hm 3 [0, 1, 5, 14] (k' := [.code [1, 1, 0, 1, 0, 0, 0, 1], .code [1, 1, 0, 1, 0, 0, 1], .loop [1, 1, 0, 1, 0], .blk 0, .code [1, 1, 1]]) (t' := [(0, .sl 42 (List.map Act.av a) f_a), (1, .sl 42 (List.map Act.av b) f_b), (5, .sc (.int .i64 ((i : Nat) : Int))), (14, .sc (.bool (decide (((i : Nat) : Int) < (((List.map Act.av a).length : Nat) : Int)))))]) (h' := []) (by kernel_rfl) ?_
    refine AR.cond (.tmp 14) (decide (((i : Nat) : Int) < (((List.map Act.av a).length : Nat) : Int))) (by kernel_rfl) (by kernel_rfl) (fun hb => ?ht9) (fun hb => ?hf9)
    case ht9 =>
      refine AR.seg hG hm 4 [0, 1, 5] (k' := [.code [1, 1, 0, 1, 0, 0, 1, 0, 0, 0], .code [1, 1, 0, 1, 0, 0, 1, 0, 0, 1], .blk 1, .code [1, 1, 0, 1, 0, 0, 1, 1], .loop [1, 1, 0, 1, 0], .blk 0, .code [1, 1, 1]]) (t' := [(0, .sl 42 (List.map Act.av a) f_a), (1, .sl 42 (List.map Act.av b) f_b), (5, .sc (.int .i64 ((i : Nat) : Int)))]) (h' := []) (by kernel_rfl) ?_
      refine AR.reg hm podestaref04_SameActs_k0 (by kernel_rfl) ?_
      refine DK.seg hG 2 [0, 1, 5, 17, 18] (t' := [(0, .sl 42 (List.map Act.av a) f_a), (1, .sl 42 (List.map Act.av b) f_b), (5, .sc (.int .i64 ((i : Nat) : Int))), (17, .sl 42 (List.map Act.av a) f_a), (18, .sc (.int .i64 ((i : Nat) : Int)))]) (h' := []) (by kernel_rfl) rfl ?_
      refine DK.op' [0, 1, 5, 19] (t' := [(0, .sl 42 (List.map Act.av a) f_a), (1, .sl 42 (List.map Act.av b) f_b), (5, .sc (.int .i64 ((i : Nat) : Int))), (19, .ep [.sc (.int .i64 x.Kind), .sc (.int .i64 x.Port), .sc (.int .i64 x.Field), .sc (.int .u64 x.Value)] 0 none)]) (h' := []) (LSpec.index' (r := Act.av x) (fs := [.sc (.int .i64 x.Kind), .sc (.int .i64 x.Port), .sc (.int .i64 x.Field), .sc (.int .u64 x.Value)]) hG (rows := List.map Act.av a) (j := ((i : Nat) : Int)) (by kernel_rfl) (ixO_map hv_i _) (by kernel_rfl)) (by kernel_rfl) rfl (by kernel_rfl) rfl ?_
      refine DK.seg hG 3 [0, 1, 5, 20, 21, 22] (t' := [(0, .sl 42 (List.map Act.av a) f_a), (1, .sl 42 (List.map Act.av b) f_b), (5, .sc (.int .i64 ((i : Nat) : Int))), (20, Act.av x), (21, .sl 42 (List.map Act.av b) f_b), (22, .sc (.int .i64 ((i : Nat) : Int)))]) (h' := []) (by kernel_rfl) rfl ?_
      obtain ⟨x1, hv, H⟩ := Option.bind_eq_some_iff.1 H
      refine DK.op' [0, 1, 5, 20, 23] (t' := [(0, .sl 42 (List.map Act.av a) f_a), (1, .sl 42 (List.map Act.av b) f_b), (5, .sc (.int .i64 ((i : Nat) : Int))), (20, Act.av x), (23, .ep [.sc (.int .i64 x1.Kind), .sc (.int .i64 x1.Port), .sc (.int .i64 x1.Field), .sc (.int .u64 x1.Value)] 0 none)]) (h' := []) (LSpec.index' (r := Act.av x1) (fs := [.sc (.int .i64 x1.Kind), .sc (.int .i64 x1.Port), .sc (.int .i64 x1.Field), .sc (.int .u64 x1.Value)]) hG (rows := List.map Act.av b) (j := ((i : Nat) : Int)) (by kernel_rfl) (ixO_map hv _) (by kernel_rfl)) (by kernel_rfl) rfl (by kernel_rfl) rfl ?_
      refine DK.seg hG 1 [0, 1, 5, 20, 24] (t' := [(0, .sl 42 (List.map Act.av a) f_a), (1, .sl 42 (List.map Act.av b) f_b), (5, .sc (.int .i64 ((i : Nat) : Int))), (20, Act.av x), (24, Act.av x1)]) (h' := []) (by kernel_rfl) rfl ?_
      refine DK.op' [0, 1, 5, 25] (t' := [(0, .sl 42 (List.map Act.av a) f_a), (1, .sl 42 (List.map Act.av b) f_b), (5, .sc (.int .i64 ((i : Nat) : Int))), (25, .sc (.bool (!((x.Kind == x1.Kind) && ((x.Port == x1.Port) && ((x.Field == x1.Field) && (x.Value == x1.Value)))))))]) (h' := []) (LSpec.eq' 9 (r := (!((x.Kind == x1.Kind) && ((x.Port == x1.Port) && ((x.Field == x1.Field) && (x.Value == x1.Value)))))) (by kernel_rfl)) (by kernel_rfl) rfl (by kernel_rfl) rfl ?_
      refine DK.done (by kernel_rfl) (by kernel_rfl) ?_
      refine AR.cond (.tmp 25) (!((x.Kind == x1.Kind) && ((x.Port == x1.Port) && ((x.Field == x1.Field) && (x.Value == x1.Value))))) (by kernel_rfl) (by kernel_rfl) (fun hb => ?ht10) (fun hb => ?hf10)
      case ht10 =>
        replace H := cond_t hb H
        refine AR.seg hG hm 2 [4] (k' := [.code [1, 1, 0, 1, 0, 0, 1, 0, 0, 1, 0, 1], .blk 1, .code [1, 1, 0, 1, 0, 0, 1, 1], .loop [1, 1, 0, 1, 0], .blk 0, .code [1, 1, 1]]) (t' := [(4, .sc (.bool false))]) (h' := []) (by kernel_rfl) ?_
        obtain rfl := Option.some.inj H
        obtain rfl := Jr _ rfl
        exact AR.ret0 (fn := Try.f64) hG Try.func64 (by kernel_rfl) hc0 (r0 := .sc (.bool false)) (by kernel_rfl) (WkV.refl _)
      case hf10 =>
        replace H := cond_f hb H
        refine AR.seg hG hm 3 [0, 1, 5] (k' := [.loop [1, 1, 0, 1, 0], .blk 0, .code [1, 1, 1]]) (t' := [(0, .sl 42 (List.map Act.av a) f_a), (1, .sl 42 (List.map Act.av b) f_b), (5, .sc (.int .i64 (IntKind.i64.wrap (((i : Nat) : Int) + 1))))]) (h' := []) (by kernel_rfl) ?_
        refine AR.keep [0, 1, 5] (t' := [(0, .sl 42 (List.map Act.av a) f_a), (1, .sl 42 (List.map Act.av b) f_b), (5, .sc (.int .i64 (IntKind.i64.wrap (((i : Nat) : Int) + 1))))]) (by kernel_rfl) ?_
        refine AR.loop_round ?_
        rw [hw]
        exact ih (i + 1) hd2 H
    case hf9 => exact absurd (hc.symm.trans hb) (by decide)

def podestaref04_SameActs_raw (a : List Act) (b : List Act) : Option (Bool) :=
  (bif ((((List.map Act.av a).length : Nat) : Int) != (((List.map Act.av b).length : Nat) : Int)) then
    some false
  else
    loopO (podestaref04_SameActs_l0s b a 0) fun v =>
    some true)
theorem podestaref04_SameActs_walk (a : List Act) (b : List Act) (f_a : Bool) (f_b : Bool) (r : Bool) (H : podestaref04_SameActs_raw a b = some r) :
    ACalls Try.prog tab.S 64 [.sl 42 (List.map Act.av a) f_a, .sl 42 (List.map Act.av b) f_b] [] (.sc (.bool r)) [] := by
  have hG := tab_ok
  have hm := mixed
  refine ACalls.of_AR (G := tab) podestaref04_SameActs_F (fn := Try.f64) Try.func64 (by kernel_rfl) (by kernel_rfl) (by kernel_rfl) (Nat.le_of_ble_eq_true (by kernel_rfl)) ?_
  intro c0 hc0
  replace hc0 : c0.m.length = 0 := hc0
  rw [podestaref04_SameActs_raw] at H
  refine AR.seg hG hm 5 [0, 1, 10] (k' := [.code [1, 0, 1], .code [1, 1]]) (t' := [(0, .sl 42 (List.map Act.av a) f_a), (1, .sl 42 (List.map Act.av b) f_b), (10, .sc (.bool ((((List.map Act.av a).length : Nat) : Int) != (((List.map Act.av b).length : Nat) : Int))))]) (h' := []) (by kernel_rfl) ?_
  refine AR.cond (.tmp 10) ((((List.map Act.av a).length : Nat) : Int) != (((List.map Act.av b).length : Nat) : Int)) (by kernel_rfl) (by kernel_rfl) (fun hb => ?ht1) (fun hb => ?hf1)
  case ht1 =>
    replace H := cond_t hb H
    refine AR.seg hG hm 2 [4] (k' := [.code [1, 0, 1, 0, 1], .code [1, 1]]) (t' := [(4, .sc (.bool false))]) (h' := []) (by kernel_rfl) ?_
    obtain rfl := Option.some.inj H
    exact AR.ret0 (fn := Try.f64) hG Try.func64 (by kernel_rfl) hc0 (r0 := .sc (.bool false)) (by kernel_rfl) (WkV.refl _)
  case hf1 =>
    replace H := cond_f hb H
    refine AR.seg hG hm 5 [0, 1, 5] (k' := [.code [1, 1, 0, 1, 0], .blk 0, .code [1, 1, 1]]) (t' := [(0, .sl 42 (List.map Act.av a) f_a), (1, .sl 42 (List.map Act.av b) f_b), (5, .sc (.int .i64 0))]) (h' := []) (by kernel_rfl) ?_
    rcases loopO_some H with ⟨v, hv, H⟩ | hv
    case inr =>
      refine AR.into (by kernel_rfl) ?_
      exact podestaref04_SameActs_l0_walk a b f_a f_b _ c0 hc0 (.inr _) (fun _ e => by cases e) (fun _ e => (Sum.inr.inj e).symm) a 0 rfl hv
    refine AR.into (by kernel_rfl) ?_
    refine podestaref04_SameActs_l0_walk a b f_a f_b r c0 hc0 (.inl v) (fun w e => ?_) (fun _ e => by cases e) a 0 rfl hv
    have e := Sum.inl.inj e
    subst e
    refine AR.seg hG hm 2 [4] (k' := [.code [1, 1, 1, 1]]) (t' := [(4, .sc (.bool true))]) (h' := []) (by kernel_rfl) ?_
    obtain rfl := Option.some.inj H
    exact AR.ret0 (fn := Try.f64) hG Try.func64 (by kernel_rfl) hc0 (r0 := .sc (.bool true)) (by kernel_rfl) (WkV.refl _)

theorem podestaref04_SameActs_ok (a b : List Act) (f_a f_b : Bool) : ACalls Try.prog tab.S 64 [.sl 42 (List.map Act.av a) f_a, .sl 42 (List.map Act.av b) f_b] [] (.sc (.bool (a == b))) [] := by
  refine podestaref04_SameActs_walk a b f_a f_b _ ?_
  rw [podestaref04_SameActs_raw, len_bne]
  by_cases h : a.length = b.length
  · simp only [h, decide_true, Bool.not_true, cond_false]
    rw [cmp_loop (v := false) (podestaref04_SameActs_l0s b) b (fun x y => x == y) (fun _ => rfl) (fun x r i => by rw [podestaref04_SameActs_l0s]; simp only [Act.beq_eq]) a 0 (by omega), List.drop_zero, zipAll_beq]
    cases a == b <;> rfl
  · have e : (a == b) = false := by
      rw [beq_eq_false_iff_ne]
      intro e
      exact h (by rw [e])
    rw [e]
    simp only [h, decide_false, Bool.not_false, cond_true]

/-! ### rule.Equal: function 46 -/
noncomputable def rule_Equal_F : Go.Sh.Fn := ⟨46, bodyOf Try.f46, 63⟩
def rule_Equal_k1 : List Kd := [.pure, .pure, .pure, .pure, .pure, .pure, .read, .read, .pure, .pure, .pure, .pure, .read, .pure, .read, .pure, .pure, .pure, .pure, .read, .pure, .read, .pure, .pure, .pure, .pure, .read, .pure, .read, .pure, .pure, .pure, .pure, .read, .pure, .read, .pure, .pure, .pure, .pure, .read, .pure, .read, .pure, .pure, .pure, .pure, .read, .pure, .read, .pure, .pure, .pure]
def rule_Equal_k2 : List Kd := [.pure, .pure, .pure, .pure, .pure, .pure, .read, .read, .pure, .pure, .pure, .pure, .read, .pure, .read, .pure, .pure, .pure, .pure, .read, .pure, .read, .pure, .pure, .pure, .pure, .read, .pure, .read, .pure, .pure, .pure, .pure, .read, .pure, .read, .pure, .pure, .pure, .pure, .read, .pure, .read, .pure, .pure, .pure, .pure, .read, .pure, .read, .pure, .pure, .pure]
def rule_Equal_k0 : List Kd := [.pure, .pure, .pure]
def rule_Equal (a : Rule) (b : Rule) : Bool :=
  ((((((((act_Same a.Acts b.Acts) && (rule_Key ({ a with Acts := [] } : Rule) ({ b with Acts := [] } : Rule))) && (a.Idle == b.Idle)) && (a.Hard == b.Hard)) && (a.Owner == b.Owner)) && (a.Hits == b.Hits)) && (a.Quiet == b.Quiet)) && (a.Age == b.Age))
theorem rule_Equal_walk (a : Rule) (b : Rule) (r : Bool) (H : rule_Equal a b = r) :
    ACalls Try.prog tab.S 46 [Rule.av a, Rule.av b] [] (.sc (.bool r)) [] := by
  have hG := tab_ok
  have hm := mixed
  refine ACalls.of_AR (G := tab) rule_Equal_F (fn := Try.f46) Try.func46 (by kernel_rfl) (by kernel_rfl) (by kernel_rfl) (Nat.le_of_ble_eq_true (by kernel_rfl)) ?_
  intro c0 hc0
  replace hc0 : c0.m.length = 0 := hc0
  rw [rule_Equal] at H
  refine AR.seg hG hm 1 [0, 1] (k' := [.code [0], .code [1]]) (t' := [(0, Rule.av a), (1, Rule.av b)]) (h' := []) (by kernel_rfl) ?_
  refine AR.reg hm rule_Equal_k0 (by kernel_rfl) ?_
  refine DK.op' [1, 2] (t' := [(1, Rule.av b), (2, .ep [.arr .u64 12 a.Match.Value, .arr .u64 12 a.Match.Care, .sc (.int .i64 a.Prio), .sl 42 (List.map Act.av a.Acts) false, .sc (.int .i64 a.Idle), .sc (.int .i64 a.Hard), .sc (.int .i64 a.Owner), .sc (.int .i64 a.Hits), .sc (.int .i64 a.Quiet), .sc (.int .i64 a.Age)] 0 none)]) (h' := []) (LSpec.boxP (fs := [.arr .u64 12 a.Match.Value, .arr .u64 12 a.Match.Care, .sc (.int .i64 a.Prio), .sl 42 (List.map Act.av a.Acts) false, .sc (.int .i64 a.Idle), .sc (.int .i64 a.Hard), .sc (.int .i64 a.Owner), .sc (.int .i64 a.Hits), .sc (.int .i64 a.Quiet), .sc (.int .i64 a.Age)]) (by kernel_rfl)) (by kernel_rfl) rfl (by kernel_rfl) rfl ?_
  refine DK.op' [2, 3] (t' := [(2, .ep [.arr .u64 12 a.Match.Value, .arr .u64 12 a.Match.Care, .sc (.int .i64 a.Prio), .sl 42 (List.map Act.av a.Acts) false, .sc (.int .i64 a.Idle), .sc (.int .i64 a.Hard), .sc (.int .i64 a.Owner), .sc (.int .i64 a.Hits), .sc (.int .i64 a.Quiet), .sc (.int .i64 a.Age)] 0 none), (3, .ep [.arr .u64 12 b.Match.Value, .arr .u64 12 b.Match.Care, .sc (.int .i64 b.Prio), .sl 42 (List.map Act.av b.Acts) false, .sc (.int .i64 b.Idle), .sc (.int .i64 b.Hard), .sc (.int .i64 b.Owner), .sc (.int .i64 b.Hits), .sc (.int .i64 b.Quiet), .sc (.int .i64 b.Age)] 0 none)]) (h' := []) (LSpec.boxP (fs := [.arr .u64 12 b.Match.Value, .arr .u64 12 b.Match.Care, .sc (.int .i64 b.Prio), .sl 42 (List.map Act.av b.Acts) false, .sc (.int .i64 b.Idle), .sc (.int .i64 b.Hard), .sc (.int .i64 b.Owner), .sc (.int .i64 b.Hits), .sc (.int .i64 b.Quiet), .sc (.int .i64 b.Age)]) (by kernel_rfl)) (by kernel_rfl) rfl (by kernel_rfl) rfl ?_
  refine DK.seg hG 1 [2, 3] (t' := [(2, .ep [.arr .u64 12 a.Match.Value, .arr .u64 12 a.Match.Care, .sc (.int .i64 a.Prio), .sl 42 (List.map Act.av a.Acts) false, .sc (.int .i64 a.Idle), .sc (.int .i64 a.Hard), .sc (.int .i64 a.Owner), .sc (.int .i64 a.Hits), .sc (.int .i64 a.Quiet), .sc (.int .i64 a.Age)] 0 none), (3, .ep [.arr .u64 12 b.Match.Value, .arr .u64 12 b.Match.Care, .sc (.int .i64 b.Prio), .sl 42 (List.map Act.av b.Acts) false, .sc (.int .i64 b.Idle), .sc (.int .i64 b.Hard), .sc (.int .i64 b.Owner), .sc (.int .i64 b.Hits), .sc (.int .i64 b.Quiet), .sc (.int .i64 b.Age)] 0 none)]) (h' := []) (by kernel_rfl) rfl ?_
  refine DK.done (by kernel_rfl) (by kernel_rfl) ?_
  refine AR.seg hG hm 1 [2, 3] (k' := [.code [1, 0], .code [1, 1]]) (t' := [(2, .ep [.arr .u64 12 a.Match.Value, .arr .u64 12 a.Match.Care, .sc (.int .i64 a.Prio), .sl 42 (List.map Act.av a.Acts) false, .sc (.int .i64 a.Idle), .sc (.int .i64 a.Hard), .sc (.int .i64 a.Owner), .sc (.int .i64 a.Hits), .sc (.int .i64 a.Quiet), .sc (.int .i64 a.Age)] 0 none), (3, .ep [.arr .u64 12 b.Match.Value, .arr .u64 12 b.Match.Care, .sc (.int .i64 b.Prio), .sl 42 (List.map Act.av b.Acts) false, .sc (.int .i64 b.Idle), .sc (.int .i64 b.Hard), .sc (.int .i64 b.Owner), .sc (.int .i64 b.Hits), .sc (.int .i64 b.Quiet), .sc (.int .i64 b.Age)] 0 none)]) (h' := []) (by kernel_rfl) ?_
  refine AR.regX hG hm [2, 3, 5, 6] [true, false, true, true, true, false, false, false, true, false, true, true, false, false, true, true, true, true, true, true, true, true, false, false, false, false, false, false, false, false] ([(2, .ep [.arr .u64 12 a.Match.Value, .arr .u64 12 a.Match.Care, .sc (.int .i64 a.Prio), .sl 42 (List.map Act.av a.Acts) false, .sc (.int .i64 a.Idle), .sc (.int .i64 a.Hard), .sc (.int .i64 a.Owner), .sc (.int .i64 a.Hits), .sc (.int .i64 a.Quiet), .sc (.int .i64 a.Age)] 0 none), (3, .ep [.arr .u64 12 b.Match.Value, .arr .u64 12 b.Match.Care, .sc (.int .i64 b.Prio), .sl 42 (List.map Act.av b.Acts) false, .sc (.int .i64 b.Idle), .sc (.int .i64 b.Hard), .sc (.int .i64 b.Owner), .sc (.int .i64 b.Hits), .sc (.int .i64 b.Quiet), .sc (.int .i64 b.Age)] 0 none), (5, .ptr 0 0 none), (6, .ptr 1 0 none)], [.box 34 [.arr .u64 12 a.Match.Value, .arr .u64 12 a.Match.Care, .sc (.int .i64 a.Prio), .sl 42 (List.map Act.av a.Acts) false, .sc (.int .i64 a.Idle), .sc (.int .i64 a.Hard), .sc (.int .i64 a.Owner), .sc (.int .i64 a.Hits), .sc (.int .i64 a.Quiet), .sc (.int .i64 a.Age)], .box 34 [.arr .u64 12 b.Match.Value, .arr .u64 12 b.Match.Care, .sc (.int .i64 b.Prio), .sl 42 (List.map Act.av b.Acts) false, .sc (.int .i64 b.Idle), .sc (.int .i64 b.Hard), .sc (.int .i64 b.Owner), .sc (.int .i64 b.Hits), .sc (.int .i64 b.Quiet), .sc (.int .i64 b.Age)]]) ([(2, .ep [.arr .u64 12 a.Match.Value, .arr .u64 12 a.Match.Care, .sc (.int .i64 a.Prio), .sl 42 (List.map Act.av a.Acts) false, .sc (.int .i64 a.Idle), .sc (.int .i64 a.Hard), .sc (.int .i64 a.Owner), .sc (.int .i64 a.Hits), .sc (.int .i64 a.Quiet), .sc (.int .i64 a.Age)] 0 none), (3, .ep [.arr .u64 12 b.Match.Value, .arr .u64 12 b.Match.Care, .sc (.int .i64 b.Prio), .sl 42 (List.map Act.av b.Acts) false, .sc (.int .i64 b.Idle), .sc (.int .i64 b.Hard), .sc (.int .i64 b.Owner), .sc (.int .i64 b.Hits), .sc (.int .i64 b.Quiet), .sc (.int .i64 b.Age)] 0 none), (5, .ptr 1 0 none), (6, .ptr 0 0 none)], [.box 34 [.arr .u64 12 b.Match.Value, .arr .u64 12 b.Match.Care, .sc (.int .i64 b.Prio), .sl 42 (List.map Act.av b.Acts) false, .sc (.int .i64 b.Idle), .sc (.int .i64 b.Hard), .sc (.int .i64 b.Owner), .sc (.int .i64 b.Hits), .sc (.int .i64 b.Quiet), .sc (.int .i64 b.Age)], .box 34 [.arr .u64 12 a.Match.Value, .arr .u64 12 a.Match.Care, .sc (.int .i64 a.Prio), .sl 42 (List.map Act.av a.Acts) false, .sc (.int .i64 a.Idle), .sc (.int .i64 a.Hard), .sc (.int .i64 a.Owner), .sc (.int .i64 a.Hits), .sc (.int .i64 a.Quiet), .sc (.int .i64 a.Age)]]) (by kernel_rfl) (by kernel_rfl) ?xa0 ?xb0
  case xa0 =>
    refine AR.seg hG hm 3 [2, 3, 5, 6] (k' := [.code [1, 1, 1, 0], .code [1, 1, 1, 1]]) (t' := [(2, .ep [.arr .u64 12 a.Match.Value, .arr .u64 12 a.Match.Care, .sc (.int .i64 a.Prio), .sl 42 (List.map Act.av a.Acts) false, .sc (.int .i64 a.Idle), .sc (.int .i64 a.Hard), .sc (.int .i64 a.Owner), .sc (.int .i64 a.Hits), .sc (.int .i64 a.Quiet), .sc (.int .i64 a.Age)] 0 none), (3, .ep [.arr .u64 12 b.Match.Value, .arr .u64 12 b.Match.Care, .sc (.int .i64 b.Prio), .sl 42 (List.map Act.av b.Acts) false, .sc (.int .i64 b.Idle), .sc (.int .i64 b.Hard), .sc (.int .i64 b.Owner), .sc (.int .i64 b.Hits), .sc (.int .i64 b.Quiet), .sc (.int .i64 b.Age)] 0 none), (5, .ptr 0 0 none), (6, .ptr 1 0 none)]) (h' := [.box 34 [.arr .u64 12 a.Match.Value, .arr .u64 12 a.Match.Care, .sc (.int .i64 a.Prio), .sl 0 [] true, .sc (.int .i64 a.Idle), .sc (.int .i64 a.Hard), .sc (.int .i64 a.Owner), .sc (.int .i64 a.Hits), .sc (.int .i64 a.Quiet), .sc (.int .i64 a.Age)], .box 34 [.arr .u64 12 b.Match.Value, .arr .u64 12 b.Match.Care, .sc (.int .i64 b.Prio), .sl 0 [] true, .sc (.int .i64 b.Idle), .sc (.int .i64 b.Hard), .sc (.int .i64 b.Owner), .sc (.int .i64 b.Hits), .sc (.int .i64 b.Quiet), .sc (.int .i64 b.Age)]]) (by kernel_rfl) ?_
    refine AR.reg hm rule_Equal_k1 (by kernel_rfl) ?_
    refine DK.seg hG 4 [5, 6, 12, 14] (t' := [(5, .ptr 0 0 none), (6, .ptr 1 0 none), (12, .sl 42 (List.map Act.av a.Acts) false), (14, .sl 42 (List.map Act.av b.Acts) false)]) (h' := [.box 34 [.arr .u64 12 a.Match.Value, .arr .u64 12 a.Match.Care, .sc (.int .i64 a.Prio), .sl 0 [] true, .sc (.int .i64 a.Idle), .sc (.int .i64 a.Hard), .sc (.int .i64 a.Owner), .sc (.int .i64 a.Hits), .sc (.int .i64 a.Quiet), .sc (.int .i64 a.Age)], .box 34 [.arr .u64 12 b.Match.Value, .arr .u64 12 b.Match.Care, .sc (.int .i64 b.Prio), .sl 0 [] true, .sc (.int .i64 b.Idle), .sc (.int .i64 b.Hard), .sc (.int .i64 b.Owner), .sc (.int .i64 b.Hits), .sc (.int .i64 b.Quiet), .sc (.int .i64 b.Age)]]) (by kernel_rfl) rfl ?_
    refine DK.op' [5, 6, 15] (t' := [(5, .ptr 0 0 none), (6, .ptr 1 0 none), (15, .sc (.bool (act_Same a.Acts b.Acts)))]) (h' := [.box 34 [.arr .u64 12 a.Match.Value, .arr .u64 12 a.Match.Care, .sc (.int .i64 a.Prio), .sl 0 [] true, .sc (.int .i64 a.Idle), .sc (.int .i64 a.Hard), .sc (.int .i64 a.Owner), .sc (.int .i64 a.Hits), .sc (.int .i64 a.Quiet), .sc (.int .i64 a.Age)], .box 34 [.arr .u64 12 b.Match.Value, .arr .u64 12 b.Match.Care, .sc (.int .i64 b.Prio), .sl 0 [] true, .sc (.int .i64 b.Idle), .sc (.int .i64 b.Hard), .sc (.int .i64 b.Owner), .sc (.int .i64 b.Hits), .sc (.int .i64 b.Quiet), .sc (.int .i64 b.Age)]]) (LSpec.callP' (act_Same_calls a.Acts b.Acts false false) (by kernel_rfl)) (by kernel_rfl) rfl (by kernel_rfl) rfl ?_
    refine DK.seg hG 1 [5, 6, 16] (t' := [(5, .ptr 0 0 none), (6, .ptr 1 0 none), (16, .sc (.bool (act_Same a.Acts b.Acts)))]) (h' := [.box 34 [.arr .u64 12 a.Match.Value, .arr .u64 12 a.Match.Care, .sc (.int .i64 a.Prio), .sl 0 [] true, .sc (.int .i64 a.Idle), .sc (.int .i64 a.Hard), .sc (.int .i64 a.Owner), .sc (.int .i64 a.Hits), .sc (.int .i64 a.Quiet), .sc (.int .i64 a.Age)], .box 34 [.arr .u64 12 b.Match.Value, .arr .u64 12 b.Match.Care, .sc (.int .i64 b.Prio), .sl 0 [] true, .sc (.int .i64 b.Idle), .sc (.int .i64 b.Hard), .sc (.int .i64 b.Owner), .sc (.int .i64 b.Hits), .sc (.int .i64 b.Quiet), .sc (.int .i64 b.Age)]]) (by kernel_rfl) rfl ?_
    refine DK.mux 16 (act_Same a.Acts b.Acts) (j := 10) (h' := [.box 34 [.arr .u64 12 a.Match.Value, .arr .u64 12 a.Match.Care, .sc (.int .i64 a.Prio), .sl 0 [] true, .sc (.int .i64 a.Idle), .sc (.int .i64 a.Hard), .sc (.int .i64 a.Owner), .sc (.int .i64 a.Hits), .sc (.int .i64 a.Quiet), .sc (.int .i64 a.Age)], .box 34 [.arr .u64 12 b.Match.Value, .arr .u64 12 b.Match.Care, .sc (.int .i64 b.Prio), .sl 0 [] true, .sc (.int .i64 b.Idle), .sc (.int .i64 b.Hard), .sc (.int .i64 b.Owner), .sc (.int .i64 b.Hits), .sc (.int .i64 b.Quiet), .sc (.int .i64 b.Age)]]) (by kernel_rfl) (fun z => [(5, .ptr 0 0 none), (6, .ptr 1 0 none), (20, .sc (.bool (z && (rule_Key ({ a with Acts := [] } : Rule) ({ b with Acts := [] } : Rule)))))]) ?J1 (fun hb J => ?ht1) (fun hb J => ?hf1)
    case ht1 =>
      refine DK.seg hG 2 [5, 6, 16, 17, 18] (t' := [(5, .ptr 0 0 none), (6, .ptr 1 0 none), (16, .sc (.bool true)), (17, .agg [.arr .u64 12 a.Match.Value, .arr .u64 12 a.Match.Care, .sc (.int .i64 a.Prio), .sl 0 [] true, .sc (.int .i64 a.Idle), .sc (.int .i64 a.Hard), .sc (.int .i64 a.Owner), .sc (.int .i64 a.Hits), .sc (.int .i64 a.Quiet), .sc (.int .i64 a.Age)]), (18, .agg [.arr .u64 12 b.Match.Value, .arr .u64 12 b.Match.Care, .sc (.int .i64 b.Prio), .sl 0 [] true, .sc (.int .i64 b.Idle), .sc (.int .i64 b.Hard), .sc (.int .i64 b.Owner), .sc (.int .i64 b.Hits), .sc (.int .i64 b.Quiet), .sc (.int .i64 b.Age)])]) (h' := [.box 34 [.arr .u64 12 a.Match.Value, .arr .u64 12 a.Match.Care, .sc (.int .i64 a.Prio), .sl 0 [] true, .sc (.int .i64 a.Idle), .sc (.int .i64 a.Hard), .sc (.int .i64 a.Owner), .sc (.int .i64 a.Hits), .sc (.int .i64 a.Quiet), .sc (.int .i64 a.Age)], .box 34 [.arr .u64 12 b.Match.Value, .arr .u64 12 b.Match.Care, .sc (.int .i64 b.Prio), .sl 0 [] true, .sc (.int .i64 b.Idle), .sc (.int .i64 b.Hard), .sc (.int .i64 b.Owner), .sc (.int .i64 b.Hits), .sc (.int .i64 b.Quiet), .sc (.int .i64 b.Age)]]) (by kernel_rfl) rfl ?_
      refine DK.op' [5, 6, 16, 19] (t' := [(5, .ptr 0 0 none), (6, .ptr 1 0 none), (16, .sc (.bool true)), (19, .sc (.bool (rule_Key ({ a with Acts := [] } : Rule) ({ b with Acts := [] } : Rule))))]) (h' := [.box 34 [.arr .u64 12 a.Match.Value, .arr .u64 12 a.Match.Care, .sc (.int .i64 a.Prio), .sl 0 [] true, .sc (.int .i64 a.Idle), .sc (.int .i64 a.Hard), .sc (.int .i64 a.Owner), .sc (.int .i64 a.Hits), .sc (.int .i64 a.Quiet), .sc (.int .i64 a.Age)], .box 34 [.arr .u64 12 b.Match.Value, .arr .u64 12 b.Match.Care, .sc (.int .i64 b.Prio), .sl 0 [] true, .sc (.int .i64 b.Idle), .sc (.int .i64 b.Hard), .sc (.int .i64 b.Owner), .sc (.int .i64 b.Hits), .sc (.int .i64 b.Quiet), .sc (.int .i64 b.Age)]]) (LSpec.callP' (ACalls.wk (aas := [.agg [.arr .u64 12 a.Match.Value, .arr .u64 12 a.Match.Care, .sc (.int .i64 a.Prio), .sl 0 [] true, .sc (.int .i64 a.Idle), .sc (.int .i64 a.Hard), .sc (.int .i64 a.Owner), .sc (.int .i64 a.Hits), .sc (.int .i64 a.Quiet), .sc (.int .i64 a.Age)], .agg [.arr .u64 12 b.Match.Value, .arr .u64 12 b.Match.Care, .sc (.int .i64 b.Prio), .sl 0 [] true, .sc (.int .i64 b.Idle), .sc (.int .i64 b.Hard), .sc (.int .i64 b.Owner), .sc (.int .i64 b.Hits), .sc (.int .i64 b.Quiet), .sc (.int .i64 b.Age)]]) (Wks.cons (WkV.agg (WkL.cons (Wk1.refl _) (WkL.cons (Wk1.refl _) (WkL.cons (Wk1.refl _) (WkL.cons (Wk1.nil 42 false) (WkL.cons (Wk1.refl _) (WkL.cons (Wk1.refl _) (WkL.cons (Wk1.refl _) (WkL.cons (Wk1.refl _) (WkL.cons (Wk1.refl _) (WkL.cons (Wk1.refl _) WkL.nil))))))))))) trivial trivial (Wks.cons (WkV.agg (WkL.cons (Wk1.refl _) (WkL.cons (Wk1.refl _) (WkL.cons (Wk1.refl _) (WkL.cons (Wk1.nil 42 false) (WkL.cons (Wk1.refl _) (WkL.cons (Wk1.refl _) (WkL.cons (Wk1.refl _) (WkL.cons (Wk1.refl _) (WkL.cons (Wk1.refl _) (WkL.cons (Wk1.refl _) WkL.nil))))))))))) trivial trivial Wks.nil)) (rule_Key_calls ({ a with Acts := [] } : Rule) ({ b with Acts := [] } : Rule))) (by kernel_rfl)) (by kernel_rfl) rfl (by kernel_rfl) rfl ?_
      exact DK.seg hG 1 [5, 6, 20] (by kernel_rfl) rfl J
    case hf1 =>
      exact DK.seg hG 4 [5, 6, 20] (by kernel_rfl) rfl J
    refine DK.seg hG 1 [5, 6, 21] (t' := [(5, .ptr 0 0 none), (6, .ptr 1 0 none), (21, .sc (.bool ((act_Same a.Acts b.Acts) && (rule_Key ({ a with Acts := [] } : Rule) ({ b with Acts := [] } : Rule)))))]) (h' := [.box 34 [.arr .u64 12 a.Match.Value, .arr .u64 12 a.Match.Care, .sc (.int .i64 a.Prio), .sl 0 [] true, .sc (.int .i64 a.Idle), .sc (.int .i64 a.Hard), .sc (.int .i64 a.Owner), .sc (.int .i64 a.Hits), .sc (.int .i64 a.Quiet), .sc (.int .i64 a.Age)], .box 34 [.arr .u64 12 b.Match.Value, .arr .u64 12 b.Match.Care, .sc (.int .i64 b.Prio), .sl 0 [] true, .sc (.int .i64 b.Idle), .sc (.int .i64 b.Hard), .sc (.int .i64 b.Owner), .sc (.int .i64 b.Hits), .sc (.int .i64 b.Quiet), .sc (.int .i64 b.Age)]]) (by kernel_rfl) rfl ?_
    refine DK.mux 21 ((act_Same a.Acts b.Acts) && (rule_Key ({ a with Acts := [] } : Rule) ({ b with Acts := [] } : Rule))) (j := 17) (h' := [.box 34 [.arr .u64 12 a.Match.Value, .arr .u64 12 a.Match.Care, .sc (.int .i64 a.Prio), .sl 0 [] true, .sc (.int .i64 a.Idle), .sc (.int .i64 a.Hard), .sc (.int .i64 a.Owner), .sc (.int .i64 a.Hits), .sc (.int .i64 a.Quiet), .sc (.int .i64 a.Age)], .box 34 [.arr .u64 12 b.Match.Value, .arr .u64 12 b.Match.Care, .sc (.int .i64 b.Prio), .sl 0 [] true, .sc (.int .i64 b.Idle), .sc (.int .i64 b.Hard), .sc (.int .i64 b.Owner), .sc (.int .i64 b.Hits), .sc (.int .i64 b.Quiet), .sc (.int .i64 b.Age)]]) (by kernel_rfl) (fun z => [(5, .ptr 0 0 none), (6, .ptr 1 0 none), (27, .sc (.bool (z && (a.Idle == b.Idle))))]) ?J2 (fun hb J => ?ht2) (fun hb J => ?hf2)
    case ht2 =>
      exact DK.seg hG 6 [5, 6, 27] (by kernel_rfl) rfl J
    case hf2 =>
      exact DK.seg hG 6 [5, 6, 27] (by kernel_rfl) rfl J
    refine DK.seg hG 1 [5, 6, 28] (t' := [(5, .ptr 0 0 none), (6, .ptr 1 0 none), (28, .sc (.bool (((act_Same a.Acts b.Acts) && (rule_Key ({ a with Acts := [] } : Rule) ({ b with Acts := [] } : Rule))) && (a.Idle == b.Idle))))]) (h' := [.box 34 [.arr .u64 12 a.Match.Value, .arr .u64 12 a.Match.Care, .sc (.int .i64 a.Prio), .sl 0 [] true, .sc (.int .i64 a.Idle), .sc (.int .i64 a.Hard), .sc (.int .i64 a.Owner), .sc (.int .i64 a.Hits), .sc (.int .i64 a.Quiet), .sc (.int .i64 a.Age)], .box 34 [.arr .u64 12 b.Match.Value, .arr .u64 12 b.Match.Care, .sc (.int .i64 b.Prio), .sl 0 [] true, .sc (.int .i64 b.Idle), .sc (.int .i64 b.Hard), .sc (.int .i64 b.Owner), .sc (.int .i64 b.Hits), .sc (.int .i64 b.Quiet), .sc (.int .i64 b.Age)]]) (by kernel_rfl) rfl ?_
    refine DK.mux 28 (((act_Same a.Acts b.Acts) && (rule_Key ({ a with Acts := [] } : Rule) ({ b with Acts := [] } : Rule))) && (a.Idle == b.Idle)) (j := 24) (h' := [.box 34 [.arr .u64 12 a.Match.Value, .arr .u64 12 a.Match.Care, .sc (.int .i64 a.Prio), .sl 0 [] true, .sc (.int .i64 a.Idle), .sc (.int .i64 a.Hard), .sc (.int .i64 a.Owner), .sc (.int .i64 a.Hits), .sc (.int .i64 a.Quiet), .sc (.int .i64 a.Age)], .box 34 [.arr .u64 12 b.Match.Value, .arr .u64 12 b.Match.Care, .sc (.int .i64 b.Prio), .sl 0 [] true, .sc (.int .i64 b.Idle), .sc (.int .i64 b.Hard), .sc (.int .i64 b.Owner), .sc (.int .i64 b.Hits), .sc (.int .i64 b.Quiet), .sc (.int .i64 b.Age)]]) (by kernel_rfl) (fun z => [(5, .ptr 0 0 none), (6, .ptr 1 0 none), (34, .sc (.bool (z && (a.Hard == b.Hard))))]) ?J3 (fun hb J => ?ht3) (fun hb J => ?hf3)
    case ht3 =>
      exact DK.seg hG 6 [5, 6, 34] (by kernel_rfl) rfl J
    case hf3 =>
      exact DK.seg hG 6 [5, 6, 34] (by kernel_rfl) rfl J
    refine DK.seg hG 1 [5, 6, 35] (t' := [(5, .ptr 0 0 none), (6, .ptr 1 0 none), (35, .sc (.bool ((((act_Same a.Acts b.Acts) && (rule_Key ({ a with Acts := [] } : Rule) ({ b with Acts := [] } : Rule))) && (a.Idle == b.Idle)) && (a.Hard == b.Hard))))]) (h' := [.box 34 [.arr .u64 12 a.Match.Value, .arr .u64 12 a.Match.Care, .sc (.int .i64 a.Prio), .sl 0 [] true, .sc (.int .i64 a.Idle), .sc (.int .i64 a.Hard), .sc (.int .i64 a.Owner), .sc (.int .i64 a.Hits), .sc (.int .i64 a.Quiet), .sc (.int .i64 a.Age)], .box 34 [.arr .u64 12 b.Match.Value, .arr .u64 12 b.Match.Care, .sc (.int .i64 b.Prio), .sl 0 [] true, .sc (.int .i64 b.Idle), .sc (.int .i64 b.Hard), .sc (.int .i64 b.Owner), .sc (.int .i64 b.Hits), .sc (.int .i64 b.Quiet), .sc (.int .i64 b.Age)]]) (by kernel_rfl) rfl ?_
    refine DK.mux 35 ((((act_Same a.Acts b.Acts) && (rule_Key ({ a with Acts := [] } : Rule) ({ b with Acts := [] } : Rule))) && (a.Idle == b.Idle)) && (a.Hard == b.Hard)) (j := 31) (h' := [.box 34 [.arr .u64 12 a.Match.Value, .arr .u64 12 a.Match.Care, .sc (.int .i64 a.Prio), .sl 0 [] true, .sc (.int .i64 a.Idle), .sc (.int .i64 a.Hard), .sc (.int .i64 a.Owner), .sc (.int .i64 a.Hits), .sc (.int .i64 a.Quiet), .sc (.int .i64 a.Age)], .box 34 [.arr .u64 12 b.Match.Value, .arr .u64 12 b.Match.Care, .sc (.int .i64 b.Prio), .sl 0 [] true, .sc (.int .i64 b.Idle), .sc (.int .i64 b.Hard), .sc (.int .i64 b.Owner), .sc (.int .i64 b.Hits), .sc (.int .i64 b.Quiet), .sc (.int .i64 b.Age)]]) (by kernel_rfl) (fun z => [(5, .ptr 0 0 none), (6, .ptr 1 0 none), (41, .sc (.bool (z && (a.Owner == b.Owner))))]) ?J4 (fun hb J => ?ht4) (fun hb J => ?hf4)
    case ht4 =>
      exact DK.seg hG 6 [5, 6, 41] (by kernel_rfl) rfl J
    case hf4 =>
      exact DK.seg hG 6 [5, 6, 41] (by kernel_rfl) rfl J
    refine DK.seg hG 1 [5, 6, 42] (t' := [(5, .ptr 0 0 none), (6, .ptr 1 0 none), (42, .sc (.bool (((((act_Same a.Acts b.Acts) && (rule_Key ({ a with Acts := [] } : Rule) ({ b with Acts := [] } : Rule))) && (a.Idle == b.Idle)) && (a.Hard == b.Hard)) && (a.Owner == b.Owner))))]) (h' := [.box 34 [.arr .u64 12 a.Match.Value, .arr .u64 12 a.Match.Care, .sc (.int .i64 a.Prio), .sl 0 [] true, .sc (.int .i64 a.Idle), .sc (.int .i64 a.Hard), .sc (.int .i64 a.Owner), .sc (.int .i64 a.Hits), .sc (.int .i64 a.Quiet), .sc (.int .i64 a.Age)], .box 34 [.arr .u64 12 b.Match.Value, .arr .u64 12 b.Match.Care, .sc (.int .i64 b.Prio), .sl 0 [] true, .sc (.int .i64 b.Idle), .sc (.int .i64 b.Hard), .sc (.int .i64 b.Owner), .sc (.int .i64 b.Hits), .sc (.int .i64 b.Quiet), .sc (.int .i64 b.Age)]]) (by kernel_rfl) rfl ?_
    refine DK.mux 42 (((((act_Same a.Acts b.Acts) && (rule_Key ({ a with Acts := [] } : Rule) ({ b with Acts := [] } : Rule))) && (a.Idle == b.Idle)) && (a.Hard == b.Hard)) && (a.Owner == b.Owner)) (j := 38) (h' := [.box 34 [.arr .u64 12 a.Match.Value, .arr .u64 12 a.Match.Care, .sc (.int .i64 a.Prio), .sl 0 [] true, .sc (.int .i64 a.Idle), .sc (.int .i64 a.Hard), .sc (.int .i64 a.Owner), .sc (.int .i64 a.Hits), .sc (.int .i64 a.Quiet), .sc (.int .i64 a.Age)], .box 34 [.arr .u64 12 b.Match.Value, .arr .u64 12 b.Match.Care, .sc (.int .i64 b.Prio), .sl 0 [] true, .sc (.int .i64 b.Idle), .sc (.int .i64 b.Hard), .sc (.int .i64 b.Owner), .sc (.int .i64 b.Hits), .sc (.int .i64 b.Quiet), .sc (.int .i64 b.Age)]]) (by kernel_rfl) (fun z => [(5, .ptr 0 0 none), (6, .ptr 1 0 none), (48, .sc (.bool (z && (a.Hits == b.Hits))))]) ?J5 (fun hb J => ?ht5) (fun hb J => ?hf5)
    case ht5 =>
      exact DK.seg hG 6 [5, 6, 48] (by kernel_rfl) rfl J
    case hf5 =>
      exact DK.seg hG 6 [5, 6, 48] (by kernel_rfl) rfl J
    refine DK.seg hG 1 [5, 6, 49] (t' := [(5, .ptr 0 0 none), (6, .ptr 1 0 none), (49, .sc (.bool ((((((act_Same a.Acts b.Acts) && (rule_Key ({ a with Acts := [] } : Rule) ({ b with Acts := [] } : Rule))) && (a.Idle == b.Idle)) && (a.Hard == b.Hard)) && (a.Owner == b.Owner)) && (a.Hits == b.Hits))))]) (h' := [.box 34 [.arr .u64 12 a.Match.Value, .arr .u64 12 a.Match.Care, .sc (.int .i64 a.Prio), .sl 0 [] true, .sc (.int .i64 a.Idle), .sc (.int .i64 a.Hard), .sc (.int .i64 a.Owner), .sc (.int .i64 a.Hits), .sc (.int .i64 a.Quiet), .sc (.int .i64 a.Age)], .box 34 [.arr .u64 12 b.Match.Value, .arr .u64 12 b.Match.Care, .sc (.int .i64 b.Prio), .sl 0 [] true, .sc (.int .i64 b.Idle), .sc (.int .i64 b.Hard), .sc (.int .i64 b.Owner), .sc (.int .i64 b.Hits), .sc (.int .i64 b.Quiet), .sc (.int .i64 b.Age)]]) (by kernel_rfl) rfl ?_
    refine DK.mux 49 ((((((act_Same a.Acts b.Acts) && (rule_Key ({ a with Acts := [] } : Rule) ({ b with Acts := [] } : Rule))) && (a.Idle == b.Idle)) && (a.Hard == b.Hard)) && (a.Owner == b.Owner)) && (a.Hits == b.Hits)) (j := 45) (h' := [.box 34 [.arr .u64 12 a.Match.Value, .arr .u64 12 a.Match.Care, .sc (.int .i64 a.Prio), .sl 0 [] true, .sc (.int .i64 a.Idle), .sc (.int .i64 a.Hard), .sc (.int .i64 a.Owner), .sc (.int .i64 a.Hits), .sc (.int .i64 a.Quiet), .sc (.int .i64 a.Age)], .box 34 [.arr .u64 12 b.Match.Value, .arr .u64 12 b.Match.Care, .sc (.int .i64 b.Prio), .sl 0 [] true, .sc (.int .i64 b.Idle), .sc (.int .i64 b.Hard), .sc (.int .i64 b.Owner), .sc (.int .i64 b.Hits), .sc (.int .i64 b.Quiet), .sc (.int .i64 b.Age)]]) (by kernel_rfl) (fun z => [(5, .ptr 0 0 none), (6, .ptr 1 0 none), (55, .sc (.bool (z && (a.Quiet == b.Quiet))))]) ?J6 (fun hb J => ?ht6) (fun hb J => ?hf6)
    case ht6 =>
      exact DK.seg hG 6 [5, 6, 55] (by kernel_rfl) rfl J
    case hf6 =>
      exact DK.seg hG 6 [5, 6, 55] (by kernel_rfl) rfl J
    refine DK.seg hG 1 [5, 6, 56] (t' := [(5, .ptr 0 0 none), (6, .ptr 1 0 none), (56, .sc (.bool (((((((act_Same a.Acts b.Acts) && (rule_Key ({ a with Acts := [] } : Rule) ({ b with Acts := [] } : Rule))) && (a.Idle == b.Idle)) && (a.Hard == b.Hard)) && (a.Owner == b.Owner)) && (a.Hits == b.Hits)) && (a.Quiet == b.Quiet))))]) (h' := [.box 34 [.arr .u64 12 a.Match.Value, .arr .u64 12 a.Match.Care, .sc (.int .i64 a.Prio), .sl 0 [] true, .sc (.int .i64 a.Idle), .sc (.int .i64 a.Hard), .sc (.int .i64 a.Owner), .sc (.int .i64 a.Hits), .sc (.int .i64 a.Quiet), .sc (.int .i64 a.Age)], .box 34 [.arr .u64 12 b.Match.Value, .arr .u64 12 b.Match.Care, .sc (.int .i64 b.Prio), .sl 0 [] true, .sc (.int .i64 b.Idle), .sc (.int .i64 b.Hard), .sc (.int .i64 b.Owner), .sc (.int .i64 b.Hits), .sc (.int .i64 b.Quiet), .sc (.int .i64 b.Age)]]) (by kernel_rfl) rfl ?_
    refine DK.mux 56 (((((((act_Same a.Acts b.Acts) && (rule_Key ({ a with Acts := [] } : Rule) ({ b with Acts := [] } : Rule))) && (a.Idle == b.Idle)) && (a.Hard == b.Hard)) && (a.Owner == b.Owner)) && (a.Hits == b.Hits)) && (a.Quiet == b.Quiet)) (j := 52) (h' := [.box 34 [.arr .u64 12 a.Match.Value, .arr .u64 12 a.Match.Care, .sc (.int .i64 a.Prio), .sl 0 [] true, .sc (.int .i64 a.Idle), .sc (.int .i64 a.Hard), .sc (.int .i64 a.Owner), .sc (.int .i64 a.Hits), .sc (.int .i64 a.Quiet), .sc (.int .i64 a.Age)], .box 34 [.arr .u64 12 b.Match.Value, .arr .u64 12 b.Match.Care, .sc (.int .i64 b.Prio), .sl 0 [] true, .sc (.int .i64 b.Idle), .sc (.int .i64 b.Hard), .sc (.int .i64 b.Owner), .sc (.int .i64 b.Hits), .sc (.int .i64 b.Quiet), .sc (.int .i64 b.Age)]]) (by kernel_rfl) (fun z => [(62, .sc (.bool (z && (a.Age == b.Age))))]) ?J7 (fun hb J => ?ht7) (fun hb J => ?hf7)
    case ht7 =>
      exact DK.seg hG 6 [62] (by kernel_rfl) rfl J
    case hf7 =>
      exact DK.seg hG 6 [62] (by kernel_rfl) rfl J
    refine DK.seg hG 1 [4] (t' := [(4, .sc (.bool ((((((((act_Same a.Acts b.Acts) && (rule_Key ({ a with Acts := [] } : Rule) ({ b with Acts := [] } : Rule))) && (a.Idle == b.Idle)) && (a.Hard == b.Hard)) && (a.Owner == b.Owner)) && (a.Hits == b.Hits)) && (a.Quiet == b.Quiet)) && (a.Age == b.Age))))]) (h' := [.box 34 [.arr .u64 12 a.Match.Value, .arr .u64 12 a.Match.Care, .sc (.int .i64 a.Prio), .sl 0 [] true, .sc (.int .i64 a.Idle), .sc (.int .i64 a.Hard), .sc (.int .i64 a.Owner), .sc (.int .i64 a.Hits), .sc (.int .i64 a.Quiet), .sc (.int .i64 a.Age)], .box 34 [.arr .u64 12 b.Match.Value, .arr .u64 12 b.Match.Care, .sc (.int .i64 b.Prio), .sl 0 [] true, .sc (.int .i64 b.Idle), .sc (.int .i64 b.Hard), .sc (.int .i64 b.Owner), .sc (.int .i64 b.Hits), .sc (.int .i64 b.Quiet), .sc (.int .i64 b.Age)]]) (by kernel_rfl) rfl ?_
    refine DK.done (by kernel_rfl) (by kernel_rfl) ?_
    subst H
    exact AR.ret0 (fn := Try.f46) hG Try.func46 (by kernel_rfl) hc0 (r0 := .sc (.bool ((((((((act_Same a.Acts b.Acts) && (rule_Key ({ a with Acts := [] } : Rule) ({ b with Acts := [] } : Rule))) && (a.Idle == b.Idle)) && (a.Hard == b.Hard)) && (a.Owner == b.Owner)) && (a.Hits == b.Hits)) && (a.Quiet == b.Quiet)) && (a.Age == b.Age)))) (by kernel_rfl) (WkV.refl _)
  case xb0 =>
    refine AR.seg hG hm 3 [2, 3, 5, 6] (k' := [.code [1, 1, 1, 0], .code [1, 1, 1, 1]]) (t' := [(2, .ep [.arr .u64 12 a.Match.Value, .arr .u64 12 a.Match.Care, .sc (.int .i64 a.Prio), .sl 42 (List.map Act.av a.Acts) false, .sc (.int .i64 a.Idle), .sc (.int .i64 a.Hard), .sc (.int .i64 a.Owner), .sc (.int .i64 a.Hits), .sc (.int .i64 a.Quiet), .sc (.int .i64 a.Age)] 0 none), (3, .ep [.arr .u64 12 b.Match.Value, .arr .u64 12 b.Match.Care, .sc (.int .i64 b.Prio), .sl 42 (List.map Act.av b.Acts) false, .sc (.int .i64 b.Idle), .sc (.int .i64 b.Hard), .sc (.int .i64 b.Owner), .sc (.int .i64 b.Hits), .sc (.int .i64 b.Quiet), .sc (.int .i64 b.Age)] 0 none), (5, .ptr 1 0 none), (6, .ptr 0 0 none)]) (h' := [.box 34 [.arr .u64 12 b.Match.Value, .arr .u64 12 b.Match.Care, .sc (.int .i64 b.Prio), .sl 0 [] true, .sc (.int .i64 b.Idle), .sc (.int .i64 b.Hard), .sc (.int .i64 b.Owner), .sc (.int .i64 b.Hits), .sc (.int .i64 b.Quiet), .sc (.int .i64 b.Age)], .box 34 [.arr .u64 12 a.Match.Value, .arr .u64 12 a.Match.Care, .sc (.int .i64 a.Prio), .sl 0 [] true, .sc (.int .i64 a.Idle), .sc (.int .i64 a.Hard), .sc (.int .i64 a.Owner), .sc (.int .i64 a.Hits), .sc (.int .i64 a.Quiet), .sc (.int .i64 a.Age)]]) (by kernel_rfl) ?_
    refine AR.reg hm rule_Equal_k2 (by kernel_rfl) ?_
    refine DK.seg hG 4 [5, 6, 12, 14] (t' := [(5, .ptr 1 0 none), (6, .ptr 0 0 none), (12, .sl 42 (List.map Act.av a.Acts) false), (14, .sl 42 (List.map Act.av b.Acts) false)]) (h' := [.box 34 [.arr .u64 12 b.Match.Value, .arr .u64 12 b.Match.Care, .sc (.int .i64 b.Prio), .sl 0 [] true, .sc (.int .i64 b.Idle), .sc (.int .i64 b.Hard), .sc (.int .i64 b.Owner), .sc (.int .i64 b.Hits), .sc (.int .i64 b.Quiet), .sc (.int .i64 b.Age)], .box 34 [.arr .u64 12 a.Match.Value, .arr .u64 12 a.Match.Care, .sc (.int .i64 a.Prio), .sl 0 [] true, .sc (.int .i64 a.Idle), .sc (.int .i64 a.Hard), .sc (.int .i64 a.Owner), .sc (.int .i64 a.Hits), .sc (.int .i64 a.Quiet), .sc (.int .i64 a.Age)]]) (by kernel_rfl) rfl ?_
    refine DK.op' [5, 6, 15] (t' := [(5, .ptr 1 0 none), (6, .ptr 0 0 none), (15, .sc (.bool (act_Same a.Acts b.Acts)))]) (h' := [.box 34 [.arr .u64 12 b.Match.Value, .arr .u64 12 b.Match.Care, .sc (.int .i64 b.Prio), .sl 0 [] true, .sc (.int .i64 b.Idle), .sc (.int .i64 b.Hard), .sc (.int .i64 b.Owner), .sc (.int .i64 b.Hits), .sc (.int .i64 b.Quiet), .sc (.int .i64 b.Age)], .box 34 [.arr .u64 12 a.Match.Value, .arr .u64 12 a.Match.Care, .sc (.int .i64 a.Prio), .sl 0 [] true, .sc (.int .i64 a.Idle), .sc (.int .i64 a.Hard), .sc (.int .i64 a.Owner), .sc (.int .i64 a.Hits), .sc (.int .i64 a.Quiet), .sc (.int .i64 a.Age)]]) (LSpec.callP' (act_Same_calls a.Acts b.Acts false false) (by kernel_rfl)) (by kernel_rfl) rfl (by kernel_rfl) rfl ?_
    refine DK.seg hG 1 [5, 6, 16] (t' := [(5, .ptr 1 0 none), (6, .ptr 0 0 none), (16, .sc (.bool (act_Same a.Acts b.Acts)))]) (h' := [.box 34 [.arr .u64 12 b.Match.Value, .arr .u64 12 b.Match.Care, .sc (.int .i64 b.Prio), .sl 0 [] true, .sc (.int .i64 b.Idle), .sc (.int .i64 b.Hard), .sc (.int .i64 b.Owner), .sc (.int .i64 b.Hits), .sc (.int .i64 b.Quiet), .sc (.int .i64 b.Age)], .box 34 [.arr .u64 12 a.Match.Value, .arr .u64 12 a.Match.Care, .sc (.int .i64 a.Prio), .sl 0 [] true, .sc (.int .i64 a.Idle), .sc (.int .i64 a.Hard), .sc (.int .i64 a.Owner), .sc (.int .i64 a.Hits), .sc (.int .i64 a.Quiet), .sc (.int .i64 a.Age)]]) (by kernel_rfl) rfl ?_
    refine DK.mux 16 (act_Same a.Acts b.Acts) (j := 10) (h' := [.box 34 [.arr .u64 12 b.Match.Value, .arr .u64 12 b.Match.Care, .sc (.int .i64 b.Prio), .sl 0 [] true, .sc (.int .i64 b.Idle), .sc (.int .i64 b.Hard), .sc (.int .i64 b.Owner), .sc (.int .i64 b.Hits), .sc (.int .i64 b.Quiet), .sc (.int .i64 b.Age)], .box 34 [.arr .u64 12 a.Match.Value, .arr .u64 12 a.Match.Care, .sc (.int .i64 a.Prio), .sl 0 [] true, .sc (.int .i64 a.Idle), .sc (.int .i64 a.Hard), .sc (.int .i64 a.Owner), .sc (.int .i64 a.Hits), .sc (.int .i64 a.Quiet), .sc (.int .i64 a.Age)]]) (by kernel_rfl) (fun z => [(5, .ptr 1 0 none), (6, .ptr 0 0 none), (20, .sc (.bool (z && (rule_Key ({ a with Acts := [] } : Rule) ({ b with Acts := [] } : Rule)))))]) ?J8 (fun hb J => ?ht8) (fun hb J => ?hf8)
    case ht8 =>
      refine DK.seg hG 2 [5, 6, 16, 17, 18] (t' := [(5, .ptr 1 0 none), (6, .ptr 0 0 none), (16, .sc (.bool true)), (17, .agg [.arr .u64 12 a.Match.Value, .arr .u64 12 a.Match.Care, .sc (.int .i64 a.Prio), .sl 0 [] true, .sc (.int .i64 a.Idle), .sc (.int .i64 a.Hard), .sc (.int .i64 a.Owner), .sc (.int .i64 a.Hits), .sc (.int .i64 a.Quiet), .sc (.int .i64 a.Age)]), (18, .agg [.arr .u64 12 b.Match.Value, .arr .u64 12 b.Match.Care, .sc (.int .i64 b.Prio), .sl 0 [] true, .sc (.int .i64 b.Idle), .sc (.int .i64 b.Hard), .sc (.int .i64 b.Owner), .sc (.int .i64 b.Hits), .sc (.int .i64 b.Quiet), .sc (.int .i64 b.Age)])]) (h' := [.box 34 [.arr .u64 12 b.Match.Value, .arr .u64 12 b.Match.Care, .sc (.int .i64 b.Prio), .sl 0 [] true, .sc (.int .i64 b.Idle), .sc (.int .i64 b.Hard), .sc (.int .i64 b.Owner), .sc (.int .i64 b.Hits), .sc (.int .i64 b.Quiet), .sc (.int .i64 b.Age)], .box 34 [.arr .u64 12 a.Match.Value, .arr .u64 12 a.Match.Care, .sc (.int .i64 a.Prio), .sl 0 [] true, .sc (.int .i64 a.Idle), .sc (.int .i64 a.Hard), .sc (.int .i64 a.Owner), .sc (.int .i64 a.Hits), .sc (.int .i64 a.Quiet), .sc (.int .i64 a.Age)]]) (by kernel_rfl) rfl ?_
      refine DK.op' [5, 6, 16, 19] (t' := [(5, .ptr 1 0 none), (6, .ptr 0 0 none), (16, .sc (.bool true)), (19, .sc (.bool (rule_Key ({ a with Acts := [] } : Rule) ({ b with Acts := [] } : Rule))))]) (h' := [.box 34 [.arr .u64 12 b.Match.Value, .arr .u64 12 b.Match.Care, .sc (.int .i64 b.Prio), .sl 0 [] true, .sc (.int .i64 b.Idle), .sc (.int .i64 b.Hard), .sc (.int .i64 b.Owner), .sc (.int .i64 b.Hits), .sc (.int .i64 b.Quiet), .sc (.int .i64 b.Age)], .box 34 [.arr .u64 12 a.Match.Value, .arr .u64 12 a.Match.Care, .sc (.int .i64 a.Prio), .sl 0 [] true, .sc (.int .i64 a.Idle), .sc (.int .i64 a.Hard), .sc (.int .i64 a.Owner), .sc (.int .i64 a.Hits), .sc (.int .i64 a.Quiet), .sc (.int .i64 a.Age)]]) (LSpec.callP' (ACalls.wk (aas := [.agg [.arr .u64 12 a.Match.Value, .arr .u64 12 a.Match.Care, .sc (.int .i64 a.Prio), .sl 0 [] true, .sc (.int .i64 a.Idle), .sc (.int .i64 a.Hard), .sc (.int .i64 a.Owner), .sc (.int .i64 a.Hits), .sc (.int .i64 a.Quiet), .sc (.int .i64 a.Age)], .agg [.arr .u64 12 b.Match.Value, .arr .u64 12 b.Match.Care, .sc (.int .i64 b.Prio), .sl 0 [] true, .sc (.int .i64 b.Idle), .sc (.int .i64 b.Hard), .sc (.int .i64 b.Owner), .sc (.int .i64 b.Hits), .sc (.int .i64 b.Quiet), .sc (.int .i64 b.Age)]]) (Wks.cons (WkV.agg (WkL.cons (Wk1.refl _) (WkL.cons (Wk1.refl _) (WkL.cons (Wk1.refl _) (WkL.cons (Wk1.nil 42 false) (WkL.cons (Wk1.refl _) (WkL.cons (Wk1.refl _) (WkL.cons (Wk1.refl _) (WkL.cons (Wk1.refl _) (WkL.cons (Wk1.refl _) (WkL.cons (Wk1.refl _) WkL.nil))))))))))) trivial trivial (Wks.cons (WkV.agg (WkL.cons (Wk1.refl _) (WkL.cons (Wk1.refl _) (WkL.cons (Wk1.refl _) (WkL.cons (Wk1.nil 42 false) (WkL.cons (Wk1.refl _) (WkL.cons (Wk1.refl _) (WkL.cons (Wk1.refl _) (WkL.cons (Wk1.refl _) (WkL.cons (Wk1.refl _) (WkL.cons (Wk1.refl _) WkL.nil))))))))))) trivial trivial Wks.nil)) (rule_Key_calls ({ a with Acts := [] } : Rule) ({ b with Acts := [] } : Rule))) (by kernel_rfl)) (by kernel_rfl) rfl (by kernel_rfl) rfl ?_
      exact DK.seg hG 1 [5, 6, 20] (by kernel_rfl) rfl J
    case hf8 =>
      exact DK.seg hG 4 [5, 6, 20] (by kernel_rfl) rfl J
    refine DK.seg hG 1 [5, 6, 21] (t' := [(5, .ptr 1 0 none), (6, .ptr 0 0 none), (21, .sc (.bool ((act_Same a.Acts b.Acts) && (rule_Key ({ a with Acts := [] } : Rule) ({ b with Acts := [] } : Rule)))))]) (h' := [.box 34 [.arr .u64 12 b.Match.Value, .arr .u64 12 b.Match.Care, .sc (.int .i64 b.Prio), .sl 0 [] true, .sc (.int .i64 b.Idle), .sc (.int .i64 b.Hard), .sc (.int .i64 b.Owner), .sc (.int .i64 b.Hits), .sc (.int .i64 b.Quiet), .sc (.int .i64 b.Age)], .box 34 [.arr .u64 12 a.Match.Value, .arr .u64 12 a.Match.Care, .sc (.int .i64 a.Prio), .sl 0 [] true, .sc (.int .i64 a.Idle), .sc (.int .i64 a.Hard), .sc (.int .i64 a.Owner), .sc (.int .i64 a.Hits), .sc (.int .i64 a.Quiet), .sc (.int .i64 a.Age)]]) (by kernel_rfl) rfl ?_
    refine DK.mux 21 ((act_Same a.Acts b.Acts) && (rule_Key ({ a with Acts := [] } : Rule) ({ b with Acts := [] } : Rule))) (j := 17) (h' := [.box 34 [.arr .u64 12 b.Match.Value, .arr .u64 12 b.Match.Care, .sc (.int .i64 b.Prio), .sl 0 [] true, .sc (.int .i64 b.Idle), .sc (.int .i64 b.Hard), .sc (.int .i64 b.Owner), .sc (.int .i64 b.Hits), .sc (.int .i64 b.Quiet), .sc (.int .i64 b.Age)], .box 34 [.arr .u64 12 a.Match.Value, .arr .u64 12 a.Match.Care, .sc (.int .i64 a.Prio), .sl 0 [] true, .sc (.int .i64 a.Idle), .sc (.int .i64 a.Hard), .sc (.int .i64 a.Owner), .sc (.int .i64 a.Hits), .sc (.int .i64 a.Quiet), .sc (.int .i64 a.Age)]]) (by kernel_rfl) (fun z => [(5, .ptr 1 0 none), (6, .ptr 0 0 none), (27, .sc (.bool (z && (a.Idle == b.Idle))))]) ?J9 (fun hb J => ?ht9) (fun hb J => ?hf9)
    case ht9 =>
      exact DK.seg hG 6 [5, 6, 27] (by kernel_rfl) rfl J
    case hf9 =>
      exact DK.seg hG 6 [5, 6, 27] (by kernel_rfl) rfl J
    refine DK.seg hG 1 [5, 6, 28] (t' := [(5, .ptr 1 0 none), (6, .ptr 0 0 none), (28, .sc (.bool (((act_Same a.Acts b.Acts) && (rule_Key ({ a with Acts := [] } : Rule) ({ b with Acts := [] } : Rule))) && (a.Idle == b.Idle))))]) (h' := [.box 34 [.arr .u64 12 b.Match.Value, .arr .u64 12 b.Match.Care, .sc (.int .i64 b.Prio), .sl 0 [] true, .sc (.int .i64 b.Idle), .sc (.int .i64 b.Hard), .sc (.int .i64 b.Owner), .sc (.int .i64 b.Hits), .sc (.int .i64 b.Quiet), .sc (.int .i64 b.Age)], .box 34 [.arr .u64 12 a.Match.Value, .arr .u64 12 a.Match.Care, .sc (.int .i64 a.Prio), .sl 0 [] true, .sc (.int .i64 a.Idle), .sc (.int .i64 a.Hard), .sc (.int .i64 a.Owner), .sc (.int .i64 a.Hits), .sc (.int .i64 a.Quiet), .sc (.int .i64 a.Age)]]) (by kernel_rfl) rfl ?_
    refine DK.mux 28 (((act_Same a.Acts b.Acts) && (rule_Key ({ a with Acts := [] } : Rule) ({ b with Acts := [] } : Rule))) && (a.Idle == b.Idle)) (j := 24) (h' := [.box 34 [.arr .u64 12 b.Match.Value, .arr .u64 12 b.Match.Care, .sc (.int .i64 b.Prio), .sl 0 [] true, .sc (.int .i64 b.Idle), .sc (.int .i64 b.Hard), .sc (.int .i64 b.Owner), .sc (.int .i64 b.Hits), .sc (.int .i64 b.Quiet), .sc (.int .i64 b.Age)], .box 34 [.arr .u64 12 a.Match.Value, .arr .u64 12 a.Match.Care, .sc (.int .i64 a.Prio), .sl 0 [] true, .sc (.int .i64 a.Idle), .sc (.int .i64 a.Hard), .sc (.int .i64 a.Owner), .sc (.int .i64 a.Hits), .sc (.int .i64 a.Quiet), .sc (.int .i64 a.Age)]]) (by kernel_rfl) (fun z => [(5, .ptr 1 0 none), (6, .ptr 0 0 none), (34, .sc (.bool (z && (a.Hard == b.Hard))))]) ?J10 (fun hb J => ?ht10) (fun hb J => ?hf10)
    case ht10 =>
      exact DK.seg hG 6 [5, 6, 34] (by kernel_rfl) rfl J
    case hf10 =>
      exact DK.seg hG 6 [5, 6, 34] (by kernel_rfl) rfl J
    refine DK.seg hG 1 [5, 6, 35] (t' := [(5, .ptr 1 0 none), (6, .ptr 0 0 none), (35, .sc (.bool ((((act_Same a.Acts b.Acts) && (rule_Key ({ a with Acts := [] } : Rule) ({ b with Acts := [] } : Rule))) && (a.Idle == b.Idle)) && (a.Hard == b.Hard))))]) (h' := [.box 34 [.arr .u64 12 b.Match.Value, .arr .u64 12 b.Match.Care, .sc (.int .i64 b.Prio), .sl 0 [] true, .sc (.int .i64 b.Idle), .sc (.int .i64 b.Hard), .sc (.int .i64 b.Owner), .sc (.int .i64 b.Hits), .sc (.int .i64 b.Quiet), .sc (.int .i64 b.Age)], .box 34 [.arr .u64 12 a.Match.Value, .arr .u64 12 a.Match.Care, .sc (.int .i64 a.Prio), .sl 0 [] true, .sc (.int .i64 a.Idle), .sc (.int .i64 a.Hard), .sc (.int .i64 a.Owner), .sc (.int .i64 a.Hits), .sc (.int .i64 a.Quiet), .sc (.int .i64 a.Age)]]) (by kernel_rfl) rfl ?_
    refine DK.mux 35 ((((act_Same a.Acts b.Acts) && (rule_Key ({ a with Acts := [] } : Rule) ({ b with Acts := [] } : Rule))) && (a.Idle == b.Idle)) && (a.Hard == b.Hard)) (j := 31) (h' := [.box 34 [.arr .u64 12 b.Match.Value, .arr .u64 12 b.Match.Care, .sc (.int .i64 b.Prio), .sl 0 [] true, .sc (.int .i64 b.Idle), .sc (.int .i64 b.Hard), .sc (.int .i64 b.Owner), .sc (.int .i64 b.Hits), .sc (.int .i64 b.Quiet), .sc (.int .i64 b.Age)], .box 34 [.arr .u64 12 a.Match.Value, .arr .u64 12 a.Match.Care, .sc (.int .i64 a.Prio), .sl 0 [] true, .sc (.int .i64 a.Idle), .sc (.int .i64 a.Hard), .sc (.int .i64 a.Owner), .sc (.int .i64 a.Hits), .sc (.int .i64 a.Quiet), .sc (.int .i64 a.Age)]]) (by kernel_rfl) (fun z => [(5, .ptr 1 0 none), (6, .ptr 0 0 none), (41, .sc (.bool (z && (a.Owner == b.Owner))))]) ?J11 (fun hb J => ?ht11) (fun hb J => ?hf11)
    case ht11 =>
      exact DK.seg hG 6 [5, 6, 41] (by kernel_rfl) rfl J
    case hf11 =>
      exact DK.seg hG 6 [5, 6, 41] (by kernel_rfl) rfl J
    refine DK.seg hG 1 [5, 6, 42] (t' := [(5, .ptr 1 0 none), (6, .ptr 0 0 none), (42, .sc (.bool (((((act_Same a.Acts b.Acts) && (rule_Key ({ a with Acts := [] } : Rule) ({ b with Acts := [] } : Rule))) && (a.Idle == b.Idle)) && (a.Hard == b.Hard)) && (a.Owner == b.Owner))))]) (h' := [.box 34 [.arr .u64 12 b.Match.Value, .arr .u64 12 b.Match.Care, .sc (.int .i64 b.Prio), .sl 0 [] true, .sc (.int .i64 b.Idle), .sc (.int .i64 b.Hard), .sc (.int .i64 b.Owner), .sc (.int .i64 b.Hits), .sc (.int .i64 b.Quiet), .sc (.int .i64 b.Age)], .box 34 [.arr .u64 12 a.Match.Value, .arr .u64 12 a.Match.Care, .sc (.int .i64 a.Prio), .sl 0 [] true, .sc (.int .i64 a.Idle), .sc (.int .i64 a.Hard), .sc (.int .i64 a.Owner), .sc (.int .i64 a.Hits), .sc (.int .i64 a.Quiet), .sc (.int .i64 a.Age)]]) (by kernel_rfl) rfl ?_
    refine DK.mux 42 (((((act_Same a.Acts b.Acts) && (rule_Key ({ a with Acts := [] } : Rule) ({ b with Acts := [] } : Rule))) && (a.Idle == b.Idle)) && (a.Hard == b.Hard)) && (a.Owner == b.Owner)) (j := 38) (h' := [.box 34 [.arr .u64 12 b.Match.Value, .arr .u64 12 b.Match.Care, .sc (.int .i64 b.Prio), .sl 0 [] true, .sc (.int .i64 b.Idle), .sc (.int .i64 b.Hard), .sc (.int .i64 b.Owner), .sc (.int .i64 b.Hits), .sc (.int .i64 b.Quiet), .sc (.int .i64 b.Age)], .box 34 [.arr .u64 12 a.Match.Value, .arr .u64 12 a.Match.Care, .sc (.int .i64 a.Prio), .sl 0 [] true, .sc (.int .i64 a.Idle), .sc (.int .i64 a.Hard), .sc (.int .i64 a.Owner), .sc (.int .i64 a.Hits), .sc (.int .i64 a.Quiet), .sc (.int .i64 a.Age)]]) (by kernel_rfl) (fun z => [(5, .ptr 1 0 none), (6, .ptr 0 0 none), (48, .sc (.bool (z && (a.Hits == b.Hits))))]) ?J12 (fun hb J => ?ht12) (fun hb J => ?hf12)
    case ht12 =>
      exact DK.seg hG 6 [5, 6, 48] (by kernel_rfl) rfl J
    case hf12 =>
      exact DK.seg hG 6 [5, 6, 48] (by kernel_rfl) rfl J
    refine DK.seg hG 1 [5, 6, 49] (t' := [(5, .ptr 1 0 none), (6, .ptr 0 0 none), (49, .sc (.bool ((((((act_Same a.Acts b.Acts) && (rule_Key ({ a with Acts := [] } : Rule) ({ b with Acts := [] } : Rule))) && (a.Idle == b.Idle)) && (a.Hard == b.Hard)) && (a.Owner == b.Owner)) && (a.Hits == b.Hits))))]) (h' := [.box 34 [.arr .u64 12 b.Match.Value, .arr .u64 12 b.Match.Care, .sc (.int .i64 b.Prio), .sl 0 [] true, .sc (.int .i64 b.Idle), .sc (.int .i64 b.Hard), .sc (.int .i64 b.Owner), .sc (.int .i64 b.Hits), .sc (.int .i64 b.Quiet), .sc (.int .i64 b.Age)], .box 34 [.arr .u64 12 a.Match.Value, .arr .u64 12 a.Match.Care, .sc (.int .i64 a.Prio), .sl 0 [] true, .sc (.int .i64 a.Idle), .sc (.int .i64 a.Hard), .sc (.int .i64 a.Owner), .sc (.int .i64 a.Hits), .sc (.int .i64 a.Quiet), .sc (.int .i64 a.Age)]]) (by kernel_rfl) rfl ?_
    refine DK.mux 49 ((((((act_Same a.Acts b.Acts) && (rule_Key ({ a with Acts := [] } : Rule) ({ b with Acts := [] } : Rule))) && (a.Idle == b.Idle)) && (a.Hard == b.Hard)) && (a.Owner == b.Owner)) && (a.Hits == b.Hits)) (j := 45) (h' := [.box 34 [.arr .u64 12 b.Match.Value, .arr .u64 12 b.Match.Care, .sc (.int .i64 b.Prio), .sl 0 [] true, .sc (.int .i64 b.Idle), .sc (.int .i64 b.Hard), .sc (.int .i64 b.Owner), .sc (.int .i64 b.Hits), .sc (.int .i64 b.Quiet), .sc (.int .i64 b.Age)], .box 34 [.arr .u64 12 a.Match.Value, .arr .u64 12 a.Match.Care, .sc (.int .i64 a.Prio), .sl 0 [] true, .sc (.int .i64 a.Idle), .sc (.int .i64 a.Hard), .sc (.int .i64 a.Owner), .sc (.int .i64 a.Hits), .sc (.int .i64 a.Quiet), .sc (.int .i64 a.Age)]]) (by kernel_rfl) (fun z => [(5, .ptr 1 0 none), (6, .ptr 0 0 none), (55, .sc (.bool (z && (a.Quiet == b.Quiet))))]) ?J13 (fun hb J => ?ht13) (fun hb J => ?hf13)
    case ht13 =>
      exact DK.seg hG 6 [5, 6, 55] (by kernel_rfl) rfl J
    case hf13 =>
      exact DK.seg hG 6 [5, 6, 55] (by kernel_rfl) rfl J
    refine DK.seg hG 1 [5, 6, 56] (t' := [(5, .ptr 1 0 none), (6, .ptr 0 0 none), (56, .sc (.bool (((((((act_Same a.Acts b.Acts) && (rule_Key ({ a with Acts := [] } : Rule) ({ b with Acts := [] } : Rule))) && (a.Idle == b.Idle)) && (a.Hard == b.Hard)) && (a.Owner == b.Owner)) && (a.Hits == b.Hits)) && (a.Quiet == b.Quiet))))]) (h' := [.box 34 [.arr .u64 12 b.Match.Value, .arr .u64 12 b.Match.Care, .sc (.int .i64 b.Prio), .sl 0 [] true, .sc (.int .i64 b.Idle), .sc (.int .i64 b.Hard), .sc (.int .i64 b.Owner), .sc (.int .i64 b.Hits), .sc (.int .i64 b.Quiet), .sc (.int .i64 b.Age)], .box 34 [.arr .u64 12 a.Match.Value, .arr .u64 12 a.Match.Care, .sc (.int .i64 a.Prio), .sl 0 [] true, .sc (.int .i64 a.Idle), .sc (.int .i64 a.Hard), .sc (.int .i64 a.Owner), .sc (.int .i64 a.Hits), .sc (.int .i64 a.Quiet), .sc (.int .i64 a.Age)]]) (by kernel_rfl) rfl ?_
    refine DK.mux 56 (((((((act_Same a.Acts b.Acts) && (rule_Key ({ a with Acts := [] } : Rule) ({ b with Acts := [] } : Rule))) && (a.Idle == b.Idle)) && (a.Hard == b.Hard)) && (a.Owner == b.Owner)) && (a.Hits == b.Hits)) && (a.Quiet == b.Quiet)) (j := 52) (h' := [.box 34 [.arr .u64 12 b.Match.Value, .arr .u64 12 b.Match.Care, .sc (.int .i64 b.Prio), .sl 0 [] true, .sc (.int .i64 b.Idle), .sc (.int .i64 b.Hard), .sc (.int .i64 b.Owner), .sc (.int .i64 b.Hits), .sc (.int .i64 b.Quiet), .sc (.int .i64 b.Age)], .box 34 [.arr .u64 12 a.Match.Value, .arr .u64 12 a.Match.Care, .sc (.int .i64 a.Prio), .sl 0 [] true, .sc (.int .i64 a.Idle), .sc (.int .i64 a.Hard), .sc (.int .i64 a.Owner), .sc (.int .i64 a.Hits), .sc (.int .i64 a.Quiet), .sc (.int .i64 a.Age)]]) (by kernel_rfl) (fun z => [(62, .sc (.bool (z && (a.Age == b.Age))))]) ?J14 (fun hb J => ?ht14) (fun hb J => ?hf14)
    case ht14 =>
      exact DK.seg hG 6 [62] (by kernel_rfl) rfl J
    case hf14 =>
      exact DK.seg hG 6 [62] (by kernel_rfl) rfl J
    refine DK.seg hG 1 [4] (t' := [(4, .sc (.bool ((((((((act_Same a.Acts b.Acts) && (rule_Key ({ a with Acts := [] } : Rule) ({ b with Acts := [] } : Rule))) && (a.Idle == b.Idle)) && (a.Hard == b.Hard)) && (a.Owner == b.Owner)) && (a.Hits == b.Hits)) && (a.Quiet == b.Quiet)) && (a.Age == b.Age))))]) (h' := [.box 34 [.arr .u64 12 b.Match.Value, .arr .u64 12 b.Match.Care, .sc (.int .i64 b.Prio), .sl 0 [] true, .sc (.int .i64 b.Idle), .sc (.int .i64 b.Hard), .sc (.int .i64 b.Owner), .sc (.int .i64 b.Hits), .sc (.int .i64 b.Quiet), .sc (.int .i64 b.Age)], .box 34 [.arr .u64 12 a.Match.Value, .arr .u64 12 a.Match.Care, .sc (.int .i64 a.Prio), .sl 0 [] true, .sc (.int .i64 a.Idle), .sc (.int .i64 a.Hard), .sc (.int .i64 a.Owner), .sc (.int .i64 a.Hits), .sc (.int .i64 a.Quiet), .sc (.int .i64 a.Age)]]) (by kernel_rfl) rfl ?_
    refine DK.done (by kernel_rfl) (by kernel_rfl) ?_
    subst H
    exact AR.ret0 (fn := Try.f46) hG Try.func46 (by kernel_rfl) hc0 (r0 := .sc (.bool ((((((((act_Same a.Acts b.Acts) && (rule_Key ({ a with Acts := [] } : Rule) ({ b with Acts := [] } : Rule))) && (a.Idle == b.Idle)) && (a.Hard == b.Hard)) && (a.Owner == b.Owner)) && (a.Hits == b.Hits)) && (a.Quiet == b.Quiet)) && (a.Age == b.Age)))) (by kernel_rfl) (WkV.refl _)
theorem rule_Equal_calls (a : Rule) (b : Rule) : ACalls Try.prog tab.S 46 [Rule.av a, Rule.av b] [] (.sc (.bool (rule_Equal a b))) [] := rule_Equal_walk a b _ rfl

/-! ### slices.EqualFunc: function 45 -/
noncomputable def slices_EqualFunc__api_Rule_F : Go.Sh.Fn := ⟨45, bodyOf Try.f45, 32⟩
def slices_EqualFunc__api_Rule_k2 : List Kd := [.pure, .read, .read, .pure, .pure]
def slices_EqualFunc__api_Rule_k1 : List Kd := [.pure, .pure, .pure, .pure, .loud, .loud]
def slices_EqualFunc__api_Rule_k0 : List Kd := [.pure, .pure, .pure, .loud, .pure, .loud]
def slices_EqualFunc__api_Rule_l0s (s2 : List Rule) (eq : Rule → Rule → Bool) : List Rule → Nat → Option (Sum (Unit) (Bool))
  | [], t17 =>
    some (.inl ())
  | x :: rest, t17 =>
    (ixO s2 ((t17 : Nat) : Int)).bind fun x1 =>
    (bif (!(eq x x1)) then
      some (.inr false)
    else
      slices_EqualFunc__api_Rule_l0s s2 eq rest (t17 + 1) )
theorem slices_EqualFunc__api_Rule_l0_walk (s1 : List Rule) (s2 : List Rule) (F_eq : FuncId) (C_eq : List AV) (eq : Rule → Rule → Bool) (P_eq : plainL C_eq = true) (O_eq : C_eq.all oneA = true) (H_eq : ∀ (y0 : Rule) (y1 : Rule), ACalls Try.prog tab.S F_eq ([Rule.av y0, Rule.av y1] ++ C_eq) [] (.sc (.bool (eq y0 y1))) []) (f_s1 : Bool) (f_s2 : Bool) (r : Bool) (c0 : Ctx) (hc0 : c0.m.length = 0) (res : Sum (Unit) (Bool)) (J : ∀ w : Unit, res = .inl w → AR Try.prog tab slices_EqualFunc__api_Rule_F c0 (Rp tab.S c0 (.sc (.bool r)) []) [.code [1, 1, 1]] [] []) (Jr : ∀ w, res = .inr w → w = r) :
    ∀ (rest : List Rule) (t17 : Nat) (hd : s1.drop t17 = rest) (H : slices_EqualFunc__api_Rule_l0s s2 eq rest t17 = some res), AR Try.prog tab slices_EqualFunc__api_Rule_F c0 (Rp tab.S c0 (.sc (.bool r)) []) [.code [1, 1, 0, 1, 0, 0], .loop [1, 1, 0, 1, 0], .blk 0, .code [1, 1, 1]] [(1, .sl 34 (List.map Rule.av s2) f_s2), (2, .fn F_eq C_eq), (15, .sl 34 (List.map Rule.av s1) f_s1), (16, .sc (.int .i64 (((List.map Rule.av s1).length : Nat) : Int))), (17, .sc (.int .i64 ((t17 : Nat) : Int)))] [] := by
  have hG := tab_ok
  have hm := mixed
  intro rest
  induction rest with
  | nil =>
    intro t17 hd  H
    rw [slices_EqualFunc__api_Rule_l0s] at H
    refine AR.facts 15 rfl fun hf => ?_
    have hlen : s1.length ≤ 9223372036854775807 := by have hq := len_ok hf.2.1; rw [List.length_map] at hq; exact hq
    have hge : s1.length ≤ t17 := List.drop_eq_nil_iff.1 hd
    have hc : (decide (((t17 : Nat) : Int) < (((List.map Rule.av s1).length : Nat) : Int))) = false := by rw [List.length_map]; exact decide_eq_false (by omega)
    refine AR.seg hG hm 3 [1, 2, 15, 16, 17, 18] (k' := [.code [1, 1, 0, 1, 0, 0, 1, 0], .code [1, 1, 0, 1, 0, 0, 1, 1], .loop [1, 1, 0, 1, 0], .blk 0, .code [1, 1, 1]]) (t' := [(1, .sl 34 (List.map Rule.av s2) f_s2), (2, .fn F_eq C_eq), (15, .sl 34 (List.map Rule.av s1) f_s1), (16, .sc (.int .i64 (((List.map Rule.av s1).length : Nat) : Int))), (17, .sc (.int .i64 ((t17 : Nat) : Int))), (18, .sc (.bool (decide (((t17 : Nat) : Int) < (((List.map Rule.av s1).length : Nat) : Int)))))]) (h' := []) (by kernel_rfl) ?_
    refine AR.cond (.tmp 18) (decide (((t17 : Nat) : Int) < (((List.map Rule.av s1).length : Nat) : Int))) (by kernel_rfl) (by kernel_rfl) (fun hb => ?ht8) (fun hb => ?hf8)
    case ht8 => exact absurd (hb.symm.trans hc) (by decide)
    case hf8 =>
      refine AR.seg hG hm 1 [] (k' := [.code [1, 1, 1]]) (t' := []) (h' := []) (by kernel_rfl) ?_
      refine AR.keep [] (t' := []) (by kernel_rfl) ?_
      exact J () (Option.some.inj H).symm
  | cons x rest ih =>
    intro t17 hd  H
    rw [slices_EqualFunc__api_Rule_l0s] at H
    refine AR.facts 15 rfl fun hf => ?_
    have hlen : s1.length ≤ 9223372036854775807 := by have hq := len_ok hf.2.1; rw [List.length_map] at hq; exact hq
    obtain ⟨hlt, hv_t17, hd2⟩ := drop_cons hd
    have hc : (decide (((t17 : Nat) : Int) < (((List.map Rule.av s1).length : Nat) : Int))) = true := by rw [List.length_map]; exact decide_eq_true (by omega)
    have hw : IntKind.i64.wrap (((t17 : Nat) : Int) + 1) = ((t17 + 1 : Nat) : Int) := wrapI_succ (by omega)
    refine AR.seg hG hm 3 [1, 2, 15, 16, 17, 18] (k' := [.code [1, 1, 0, 1, 0, 0, 1, 0], .code [1, 1, 0, 1, 0, 0, 1, 1], .loop [1, 1, 0, 1, 0], .blk 0, .code [1, 1, 1]]) (t' := [(1, .sl 34 (List.map Rule.av s2) f_s2), (2, .fn F_eq C_eq), (15, .sl 34 (List.map Rule.av s1) f_s1), (16, .sc (.int .i64 (((List.map Rule.av s1).length : Nat) : Int))), (17, .sc (.int .i64 ((t17 : Nat) : Int))), (18, .sc (.bool (decide (((t17 : Nat) : Int) < (((List.map Rule.av s1).length : Nat) : Int)))))]) (h' := []) (by kernel_rfl) ?_
    refine AR.cond (.tmp 18) (decide (((t17 : Nat) : Int) < (((List.map Rule.av s1).length : Nat) : Int))) (by kernel_rfl) (by kernel_rfl) (fun hb => ?ht9) (fun hb => ?hf9)
    case ht9 =>
      refine AR.seg hG hm 4 [1, 2, 15, 16, 17] (k' := [.code [1, 1, 0, 1, 0, 0, 1, 1, 0, 0, 0], .code [1, 1, 0, 1, 0, 0, 1, 1, 0, 0, 1], .blk 1, .code [1, 1, 0, 1, 0, 0, 1, 1, 1], .loop [1, 1, 0, 1, 0], .blk 0, .code [1, 1, 1]]) (t' := [(1, .sl 34 (List.map Rule.av s2) f_s2), (2, .fn F_eq C_eq), (15, .sl 34 (List.map Rule.av s1) f_s1), (16, .sc (.int .i64 (((List.map Rule.av s1).length : Nat) : Int))), (17, .sc (.int .i64 ((t17 : Nat) : Int)))]) (h' := []) (by kernel_rfl) ?_
      refine AR.reg hm slices_EqualFunc__api_Rule_k0 (by kernel_rfl) ?_
      refine DK.seg hG 1 [1, 2, 15, 16, 17, 19] (t' := [(1, .sl 34 (List.map Rule.av s2) f_s2), (2, .fn F_eq C_eq), (15, .sl 34 (List.map Rule.av s1) f_s1), (16, .sc (.int .i64 (((List.map Rule.av s1).length : Nat) : Int))), (17, .sc (.int .i64 ((t17 : Nat) : Int))), (19, .sc (.int .i64 ((t17 : Nat) : Int)))]) (h' := []) (by kernel_rfl) rfl ?_
      refine DK.op' [1, 2, 15, 16, 17, 19, 20] (t' := [(1, .sl 34 (List.map Rule.av s2) f_s2), (2, .fn F_eq C_eq), (15, .sl 34 (List.map Rule.av s1) f_s1), (16, .sc (.int .i64 (((List.map Rule.av s1).length : Nat) : Int))), (17, .sc (.int .i64 ((t17 : Nat) : Int))), (19, .sc (.int .i64 ((t17 : Nat) : Int))), (20, .ep [.arr .u64 12 x.Match.Value, .arr .u64 12 x.Match.Care, .sc (.int .i64 x.Prio), .sl 42 (List.map Act.av x.Acts) false, .sc (.int .i64 x.Idle), .sc (.int .i64 x.Hard), .sc (.int .i64 x.Owner), .sc (.int .i64 x.Hits), .sc (.int .i64 x.Quiet), .sc (.int .i64 x.Age)] 0 none)]) (h' := []) (LSpec.index' (r := Rule.av x) (fs := [.arr .u64 12 x.Match.Value, .arr .u64 12 x.Match.Care, .sc (.int .i64 x.Prio), .sl 42 (List.map Act.av x.Acts) false, .sc (.int .i64 x.Idle), .sc (.int .i64 x.Hard), .sc (.int .i64 x.Owner), .sc (.int .i64 x.Hits), .sc (.int .i64 x.Quiet), .sc (.int .i64 x.Age)]) hG (rows := List.map Rule.av s1) (j := ((t17 : Nat) : Int)) (by kernel_rfl) (ixO_map hv_t17 _) (by kernel_rfl)) (by kernel_rfl) rfl (by kernel_rfl) rfl ?_
      refine DK.seg hG 4 [1, 2, 7, 8, 15, 16, 17] (t' := [(1, .sl 34 (List.map Rule.av s2) f_s2), (2, .fn F_eq C_eq), (7, .sc (.int .i64 ((t17 : Nat) : Int))), (8, .ptr 0 0 none), (15, .sl 34 (List.map Rule.av s1) f_s1), (16, .sc (.int .i64 (((List.map Rule.av s1).length : Nat) : Int))), (17, .sc (.int .i64 ((t17 : Nat) : Int)))]) (h' := [.box 34 [.arr .u64 12 x.Match.Value, .arr .u64 12 x.Match.Care, .sc (.int .i64 x.Prio), .sl 42 (List.map Act.av x.Acts) false, .sc (.int .i64 x.Idle), .sc (.int .i64 x.Hard), .sc (.int .i64 x.Owner), .sc (.int .i64 x.Hits), .sc (.int .i64 x.Quiet), .sc (.int .i64 x.Age)]]) (by kernel_rfl) rfl ?_
      refine DK.done (by kernel_rfl) (by kernel_rfl) ?_
      refine AR.seg hG hm 1 [1, 2, 7, 8, 15, 16, 17] (k' := [.code [1, 1, 0, 1, 0, 0, 1, 1, 0, 0, 1, 0], .code [1, 1, 0, 1, 0, 0, 1, 1, 0, 0, 1, 1], .blk 1, .code [1, 1, 0, 1, 0, 0, 1, 1, 1], .loop [1, 1, 0, 1, 0], .blk 0, .code [1, 1, 1]]) (t' := [(1, .sl 34 (List.map Rule.av s2) f_s2), (2, .fn F_eq C_eq), (7, .sc (.int .i64 ((t17 : Nat) : Int))), (8, .ptr 0 0 none), (15, .sl 34 (List.map Rule.av s1) f_s1), (16, .sc (.int .i64 (((List.map Rule.av s1).length : Nat) : Int))), (17, .sc (.int .i64 ((t17 : Nat) : Int)))]) (h' := [.box 34 [.arr .u64 12 x.Match.Value, .arr .u64 12 x.Match.Care, .sc (.int .i64 x.Prio), .sl 42 (List.map Act.av x.Acts) false, .sc (.int .i64 x.Idle), .sc (.int .i64 x.Hard), .sc (.int .i64 x.Owner), .sc (.int .i64 x.Hits), .sc (.int .i64 x.Quiet), .sc (.int .i64 x.Age)]]) (by kernel_rfl) ?_
      refine AR.reg hm slices_EqualFunc__api_Rule_k1 (by kernel_rfl) ?_
      refine DK.seg hG 2 [1, 2, 8, 15, 16, 17, 22, 23] (t' := [(1, .sl 34 (List.map Rule.av s2) f_s2), (2, .fn F_eq C_eq), (8, .ptr 0 0 none), (15, .sl 34 (List.map Rule.av s1) f_s1), (16, .sc (.int .i64 (((List.map Rule.av s1).length : Nat) : Int))), (17, .sc (.int .i64 ((t17 : Nat) : Int))), (22, .sl 34 (List.map Rule.av s2) f_s2), (23, .sc (.int .i64 ((t17 : Nat) : Int)))]) (h' := [.box 34 [.arr .u64 12 x.Match.Value, .arr .u64 12 x.Match.Care, .sc (.int .i64 x.Prio), .sl 42 (List.map Act.av x.Acts) false, .sc (.int .i64 x.Idle), .sc (.int .i64 x.Hard), .sc (.int .i64 x.Owner), .sc (.int .i64 x.Hits), .sc (.int .i64 x.Quiet), .sc (.int .i64 x.Age)]]) (by kernel_rfl) rfl ?_
      obtain ⟨x1, hv, H⟩ := Option.bind_eq_some_iff.1 H
      refine DK.op' [1, 2, 8, 15, 16, 17, 24] (t' := [(1, .sl 34 (List.map Rule.av s2) f_s2), (2, .fn F_eq C_eq), (8, .ptr 0 0 none), (15, .sl 34 (List.map Rule.av s1) f_s1), (16, .sc (.int .i64 (((List.map Rule.av s1).length : Nat) : Int))), (17, .sc (.int .i64 ((t17 : Nat) : Int))), (24, .ep [.arr .u64 12 x1.Match.Value, .arr .u64 12 x1.Match.Care, .sc (.int .i64 x1.Prio), .sl 42 (List.map Act.av x1.Acts) false, .sc (.int .i64 x1.Idle), .sc (.int .i64 x1.Hard), .sc (.int .i64 x1.Owner), .sc (.int .i64 x1.Hits), .sc (.int .i64 x1.Quiet), .sc (.int .i64 x1.Age)] 0 none)]) (h' := [.box 34 [.arr .u64 12 x.Match.Value, .arr .u64 12 x.Match.Care, .sc (.int .i64 x.Prio), .sl 42 (List.map Act.av x.Acts) false, .sc (.int .i64 x.Idle), .sc (.int .i64 x.Hard), .sc (.int .i64 x.Owner), .sc (.int .i64 x.Hits), .sc (.int .i64 x.Quiet), .sc (.int .i64 x.Age)]]) (LSpec.index' (r := Rule.av x1) (fs := [.arr .u64 12 x1.Match.Value, .arr .u64 12 x1.Match.Care, .sc (.int .i64 x1.Prio), .sl 42 (List.map Act.av x1.Acts) false, .sc (.int .i64 x1.Idle), .sc (.int .i64 x1.Hard), .sc (.int .i64 x1.Owner), .sc (.int .i64 x1.Hits), .sc (.int .i64 x1.Quiet), .sc (.int .i64 x1.Age)]) hG (rows := List.map Rule.av s2) (j := ((t17 : Nat) : Int)) (by kernel_rfl) (ixO_map hv _) (by kernel_rfl)) (by kernel_rfl) rfl (by kernel_rfl) rfl ?_
      refine DK.seg hG 3 [1, 2, 8, 9, 15, 16, 17] (t' := [(1, .sl 34 (List.map Rule.av s2) f_s2), (2, .fn F_eq C_eq), (8, .ptr 0 0 none), (9, .ptr 1 0 none), (15, .sl 34 (List.map Rule.av s1) f_s1), (16, .sc (.int .i64 (((List.map Rule.av s1).length : Nat) : Int))), (17, .sc (.int .i64 ((t17 : Nat) : Int)))]) (h' := [.box 34 [.arr .u64 12 x.Match.Value, .arr .u64 12 x.Match.Care, .sc (.int .i64 x.Prio), .sl 42 (List.map Act.av x.Acts) false, .sc (.int .i64 x.Idle), .sc (.int .i64 x.Hard), .sc (.int .i64 x.Owner), .sc (.int .i64 x.Hits), .sc (.int .i64 x.Quiet), .sc (.int .i64 x.Age)], .box 34 [.arr .u64 12 x1.Match.Value, .arr .u64 12 x1.Match.Care, .sc (.int .i64 x1.Prio), .sl 42 (List.map Act.av x1.Acts) false, .sc (.int .i64 x1.Idle), .sc (.int .i64 x1.Hard), .sc (.int .i64 x1.Owner), .sc (.int .i64 x1.Hits), .sc (.int .i64 x1.Quiet), .sc (.int .i64 x1.Age)]]) (by kernel_rfl) rfl ?_
      refine DK.done (by kernel_rfl) (by kernel_rfl) ?_
      refine AR.seg hG hm 1 [1, 2, 8, 9, 15, 16, 17] (k' := [.code [1, 1, 0, 1, 0, 0, 1, 1, 0, 0, 1, 1, 0], .code [1, 1, 0, 1, 0, 0, 1, 1, 0, 0, 1, 1, 1], .blk 1, .code [1, 1, 0, 1, 0, 0, 1, 1, 1], .loop [1, 1, 0, 1, 0], .blk 0, .code [1, 1, 1]]) (t' := [(1, .sl 34 (List.map Rule.av s2) f_s2), (2, .fn F_eq C_eq), (8, .ptr 0 0 none), (9, .ptr 1 0 none), (15, .sl 34 (List.map Rule.av s1) f_s1), (16, .sc (.int .i64 (((List.map Rule.av s1).length : Nat) : Int))), (17, .sc (.int .i64 ((t17 : Nat) : Int)))]) (h' := [.box 34 [.arr .u64 12 x.Match.Value, .arr .u64 12 x.Match.Care, .sc (.int .i64 x.Prio), .sl 42 (List.map Act.av x.Acts) false, .sc (.int .i64 x.Idle), .sc (.int .i64 x.Hard), .sc (.int .i64 x.Owner), .sc (.int .i64 x.Hits), .sc (.int .i64 x.Quiet), .sc (.int .i64 x.Age)], .box 34 [.arr .u64 12 x1.Match.Value, .arr .u64 12 x1.Match.Care, .sc (.int .i64 x1.Prio), .sl 42 (List.map Act.av x1.Acts) false, .sc (.int .i64 x1.Idle), .sc (.int .i64 x1.Hard), .sc (.int .i64 x1.Owner), .sc (.int .i64 x1.Hits), .sc (.int .i64 x1.Quiet), .sc (.int .i64 x1.Age)]]) (by kernel_rfl) ?_
      refine AR.reg hm slices_EqualFunc__api_Rule_k2 (by kernel_rfl) ?_
      refine DK.seg hG 3 [1, 2, 15, 16, 17, 26, 27, 28] (t' := [(1, .sl 34 (List.map Rule.av s2) f_s2), (2, .fn F_eq C_eq), (15, .sl 34 (List.map Rule.av s1) f_s1), (16, .sc (.int .i64 (((List.map Rule.av s1).length : Nat) : Int))), (17, .sc (.int .i64 ((t17 : Nat) : Int))), (26, .fn F_eq C_eq), (27, Rule.av x), (28, Rule.av x1)]) (h' := [.box 34 [.arr .u64 12 x.Match.Value, .arr .u64 12 x.Match.Care, .sc (.int .i64 x.Prio), .sl 42 (List.map Act.av x.Acts) false, .sc (.int .i64 x.Idle), .sc (.int .i64 x.Hard), .sc (.int .i64 x.Owner), .sc (.int .i64 x.Hits), .sc (.int .i64 x.Quiet), .sc (.int .i64 x.Age)], .box 34 [.arr .u64 12 x1.Match.Value, .arr .u64 12 x1.Match.Care, .sc (.int .i64 x1.Prio), .sl 42 (List.map Act.av x1.Acts) false, .sc (.int .i64 x1.Idle), .sc (.int .i64 x1.Hard), .sc (.int .i64 x1.Owner), .sc (.int .i64 x1.Hits), .sc (.int .i64 x1.Quiet), .sc (.int .i64 x1.Age)]]) (by kernel_rfl) rfl ?_
      refine DK.op' [1, 2, 15, 16, 17, 29] (t' := [(1, .sl 34 (List.map Rule.av s2) f_s2), (2, .fn F_eq C_eq), (15, .sl 34 (List.map Rule.av s1) f_s1), (16, .sc (.int .i64 (((List.map Rule.av s1).length : Nat) : Int))), (17, .sc (.int .i64 ((t17 : Nat) : Int))), (29, .sc (.bool (eq x x1)))]) (h' := [.box 34 [.arr .u64 12 x.Match.Value, .arr .u64 12 x.Match.Care, .sc (.int .i64 x.Prio), .sl 42 (List.map Act.av x.Acts) false, .sc (.int .i64 x.Idle), .sc (.int .i64 x.Hard), .sc (.int .i64 x.Owner), .sc (.int .i64 x.Hits), .sc (.int .i64 x.Quiet), .sc (.int .i64 x.Age)], .box 34 [.arr .u64 12 x1.Match.Value, .arr .u64 12 x1.Match.Care, .sc (.int .i64 x1.Prio), .sl 42 (List.map Act.av x1.Acts) false, .sc (.int .i64 x1.Idle), .sc (.int .i64 x1.Hard), .sc (.int .i64 x1.Owner), .sc (.int .i64 x1.Hits), .sc (.int .i64 x1.Quiet), .sc (.int .i64 x1.Age)]]) (LSpec.callFP' (H_eq x x1) (by kernel_rfl) P_eq O_eq) (by kernel_rfl) rfl (by kernel_rfl) rfl ?_
      refine DK.seg hG 1 [1, 2, 15, 16, 17, 30] (t' := [(1, .sl 34 (List.map Rule.av s2) f_s2), (2, .fn F_eq C_eq), (15, .sl 34 (List.map Rule.av s1) f_s1), (16, .sc (.int .i64 (((List.map Rule.av s1).length : Nat) : Int))), (17, .sc (.int .i64 ((t17 : Nat) : Int))), (30, .sc (.bool (!(eq x x1))))]) (h' := [.box 34 [.arr .u64 12 x.Match.Value, .arr .u64 12 x.Match.Care, .sc (.int .i64 x.Prio), .sl 42 (List.map Act.av x.Acts) false, .sc (.int .i64 x.Idle), .sc (.int .i64 x.Hard), .sc (.int .i64 x.Owner), .sc (.int .i64 x.Hits), .sc (.int .i64 x.Quiet), .sc (.int .i64 x.Age)], .box 34 [.arr .u64 12 x1.Match.Value, .arr .u64 12 x1.Match.Care, .sc (.int .i64 x1.Prio), .sl 42 (List.map Act.av x1.Acts) false, .sc (.int .i64 x1.Idle), .sc (.int .i64 x1.Hard), .sc (.int .i64 x1.Owner), .sc (.int .i64 x1.Hits), .sc (.int .i64 x1.Quiet), .sc (.int .i64 x1.Age)]]) (by kernel_rfl) rfl ?_
      refine DK.done (by kernel_rfl) (by kernel_rfl) ?_
      refine AR.cond (.tmp 30) (!(eq x x1)) (by kernel_rfl) (by kernel_rfl) (fun hb => ?ht10) (fun hb => ?hf10)
      case ht10 =>
        replace H := cond_t hb H
        refine AR.seg hG hm 2 [6] (k' := [.code [1, 1, 0, 1, 0, 0, 1, 1, 0, 0, 1, 1, 1, 0, 1], .blk 1, .code [1, 1, 0, 1, 0, 0, 1, 1, 1], .loop [1, 1, 0, 1, 0], .blk 0, .code [1, 1, 1]]) (t' := [(6, .sc (.bool false))]) (h' := [.box 34 [.arr .u64 12 x.Match.Value, .arr .u64 12 x.Match.Care, .sc (.int .i64 x.Prio), .sl 42 (List.map Act.av x.Acts) false, .sc (.int .i64 x.Idle), .sc (.int .i64 x.Hard), .sc (.int .i64 x.Owner), .sc (.int .i64 x.Hits), .sc (.int .i64 x.Quiet), .sc (.int .i64 x.Age)], .box 34 [.arr .u64 12 x1.Match.Value, .arr .u64 12 x1.Match.Care, .sc (.int .i64 x1.Prio), .sl 42 (List.map Act.av x1.Acts) false, .sc (.int .i64 x1.Idle), .sc (.int .i64 x1.Hard), .sc (.int .i64 x1.Owner), .sc (.int .i64 x1.Hits), .sc (.int .i64 x1.Quiet), .sc (.int .i64 x1.Age)]]) (by kernel_rfl) ?_
        obtain rfl := Option.some.inj H
        obtain rfl := Jr _ rfl
        exact AR.ret0 (fn := Try.f45) hG Try.func45 (by kernel_rfl) hc0 (r0 := .sc (.bool false)) (by kernel_rfl) (WkV.refl _)
      case hf10 =>
        replace H := cond_f hb H
        refine AR.seg hG hm 3 [1, 2, 15, 16, 17] (k' := [.loop [1, 1, 0, 1, 0], .blk 0, .code [1, 1, 1]]) (t' := [(1, .sl 34 (List.map Rule.av s2) f_s2), (2, .fn F_eq C_eq), (15, .sl 34 (List.map Rule.av s1) f_s1), (16, .sc (.int .i64 (((List.map Rule.av s1).length : Nat) : Int))), (17, .sc (.int .i64 (IntKind.i64.wrap (((t17 : Nat) : Int) + 1))))]) (h' := [.box 34 [.arr .u64 12 x.Match.Value, .arr .u64 12 x.Match.Care, .sc (.int .i64 x.Prio), .sl 42 (List.map Act.av x.Acts) false, .sc (.int .i64 x.Idle), .sc (.int .i64 x.Hard), .sc (.int .i64 x.Owner), .sc (.int .i64 x.Hits), .sc (.int .i64 x.Quiet), .sc (.int .i64 x.Age)], .box 34 [.arr .u64 12 x1.Match.Value, .arr .u64 12 x1.Match.Care, .sc (.int .i64 x1.Prio), .sl 42 (List.map Act.av x1.Acts) false, .sc (.int .i64 x1.Idle), .sc (.int .i64 x1.Hard), .sc (.int .i64 x1.Owner), .sc (.int .i64 x1.Hits), .sc (.int .i64 x1.Quiet), .sc (.int .i64 x1.Age)]]) (by kernel_rfl) ?_
        refine AR.keep [1, 2, 15, 16, 17] (t' := [(1, .sl 34 (List.map Rule.av s2) f_s2), (2, .fn F_eq C_eq), (15, .sl 34 (List.map Rule.av s1) f_s1), (16, .sc (.int .i64 (((List.map Rule.av s1).length : Nat) : Int))), (17, .sc (.int .i64 (IntKind.i64.wrap (((t17 : Nat) : Int) + 1))))]) (by kernel_rfl) ?_
        refine AR.dropX 0 hc0 (h' := []) (by kernel_rfl) (.cons (by kernel_rfl) (.cons (below_fn P_eq) (.cons (by kernel_rfl) (.cons (by kernel_rfl) (.cons (by kernel_rfl) .nil))))) (by kernel_rfl) ?_
        refine AR.loop_round ?_
        rw [hw]
        exact ih (t17 + 1) hd2 H
    case hf9 => exact absurd (hc.symm.trans hb) (by decide)

def slices_EqualFunc__api_Rule_raw (s1 : List Rule) (s2 : List Rule) (eq : Rule → Rule → Bool) : Option (Bool) :=
  (bif ((((List.map Rule.av s1).length : Nat) : Int) != (((List.map Rule.av s2).length : Nat) : Int)) then
    some false
  else
    loopO (slices_EqualFunc__api_Rule_l0s s2 eq s1 0) fun v =>
    some true)
theorem slices_EqualFunc__api_Rule_walk (s1 : List Rule) (s2 : List Rule) (F_eq : FuncId) (C_eq : List AV) (eq : Rule → Rule → Bool) (P_eq : plainL C_eq = true) (O_eq : C_eq.all oneA = true) (H_eq : ∀ (y0 : Rule) (y1 : Rule), ACalls Try.prog tab.S F_eq ([Rule.av y0, Rule.av y1] ++ C_eq) [] (.sc (.bool (eq y0 y1))) []) (f_s1 : Bool) (f_s2 : Bool) (r : Bool) (H : slices_EqualFunc__api_Rule_raw s1 s2 eq = some r) :
    ACalls Try.prog tab.S 45 [.sl 34 (List.map Rule.av s1) f_s1, .sl 34 (List.map Rule.av s2) f_s2, .fn F_eq C_eq] [] (.sc (.bool r)) [] := by
  have hG := tab_ok
  have hm := mixed
  refine ACalls.of_AR (G := tab) slices_EqualFunc__api_Rule_F (fn := Try.f45) Try.func45 (by kernel_rfl) (by kernel_rfl) (by kernel_rfl) (Nat.le_of_ble_eq_true (by kernel_rfl)) ?_
  intro c0 hc0
  replace hc0 : c0.m.length = 0 := hc0
  rw [slices_EqualFunc__api_Rule_raw] at H
  refine AR.seg hG hm 5 [0, 1, 2, 14] (k' := [.code [1, 0, 1], .code [1, 1]]) (t' := [(0, .sl 34 (List.map Rule.av s1) f_s1), (1, .sl 34 (List.map Rule.av s2) f_s2), (2, .fn F_eq C_eq), (14, .sc (.bool ((((List.map Rule.av s1).length : Nat) : Int) != (((List.map Rule.av s2).length : Nat) : Int))))]) (h' := []) (by kernel_rfl) ?_
  refine AR.cond (.tmp 14) ((((List.map Rule.av s1).length : Nat) : Int) != (((List.map Rule.av s2).length : Nat) : Int)) (by kernel_rfl) (by kernel_rfl) (fun hb => ?ht1) (fun hb => ?hf1)
  case ht1 =>
    replace H := cond_t hb H
    refine AR.seg hG hm 2 [6] (k' := [.code [1, 0, 1, 0, 1], .code [1, 1]]) (t' := [(6, .sc (.bool false))]) (h' := []) (by kernel_rfl) ?_
    obtain rfl := Option.some.inj H
    exact AR.ret0 (fn := Try.f45) hG Try.func45 (by kernel_rfl) hc0 (r0 := .sc (.bool false)) (by kernel_rfl) (WkV.refl _)
  case hf1 =>
    replace H := cond_f hb H
    refine AR.seg hG hm 5 [1, 2, 15, 16, 17] (k' := [.code [1, 1, 0, 1, 0], .blk 0, .code [1, 1, 1]]) (t' := [(1, .sl 34 (List.map Rule.av s2) f_s2), (2, .fn F_eq C_eq), (15, .sl 34 (List.map Rule.av s1) f_s1), (16, .sc (.int .i64 (((List.map Rule.av s1).length : Nat) : Int))), (17, .sc (.int .i64 0))]) (h' := []) (by kernel_rfl) ?_
    rcases loopO_some H with ⟨v, hv, H⟩ | hv
    case inr =>
      refine AR.into (by kernel_rfl) ?_
      exact slices_EqualFunc__api_Rule_l0_walk s1 s2 F_eq C_eq eq P_eq O_eq H_eq f_s1 f_s2 _ c0 hc0 (.inr _) (fun _ e => by cases e) (fun _ e => (Sum.inr.inj e).symm) s1 0 rfl hv
    refine AR.into (by kernel_rfl) ?_
    refine slices_EqualFunc__api_Rule_l0_walk s1 s2 F_eq C_eq eq P_eq O_eq H_eq f_s1 f_s2 r c0 hc0 (.inl v) (fun w e => ?_) (fun _ e => by cases e) s1 0 rfl hv
    have e := Sum.inl.inj e
    subst e
    refine AR.seg hG hm 2 [6] (k' := [.code [1, 1, 1, 1]]) (t' := [(6, .sc (.bool true))]) (h' := []) (by kernel_rfl) ?_
    obtain rfl := Option.some.inj H
    exact AR.ret0 (fn := Try.f45) hG Try.func45 (by kernel_rfl) hc0 (r0 := .sc (.bool true)) (by kernel_rfl) (WkV.refl _)

theorem zipAll_ne {α β : Type} (f : α → β → Bool) {a : List α} {b : List β} (h : ¬ a.length = b.length) : zipAll f a b = false := by
  rw [Bool.eq_false_iff]
  exact fun q => h (zipAll_len q)
theorem slices_EqualFunc__api_Rule_ok (s1 s2 : List Rule) (F_eq : FuncId) (C_eq : List AV) (eq : Rule → Rule → Bool) (P_eq : plainL C_eq = true) (O_eq : C_eq.all oneA = true) (H_eq : ∀ (y0 : Rule) (y1 : Rule), ACalls Try.prog tab.S F_eq ([Rule.av y0, Rule.av y1] ++ C_eq) [] (.sc (.bool (eq y0 y1))) []) (f_s1 f_s2 : Bool) :
    ACalls Try.prog tab.S 45 [.sl 34 (List.map Rule.av s1) f_s1, .sl 34 (List.map Rule.av s2) f_s2, .fn F_eq C_eq] [] (.sc (.bool (zipAll eq s1 s2))) [] := by
  refine slices_EqualFunc__api_Rule_walk s1 s2 F_eq C_eq eq P_eq O_eq H_eq f_s1 f_s2 _ ?_
  rw [slices_EqualFunc__api_Rule_raw, len_bne]
  by_cases h : s1.length = s2.length
  · simp only [h, decide_true, Bool.not_true, cond_false]
    rw [cmp_loop (v := false) (slices_EqualFunc__api_Rule_l0s s2 eq) s2 eq (fun _ => rfl) (fun x r i => by rw [slices_EqualFunc__api_Rule_l0s]) s1 0 (by omega), List.drop_zero]
    cases zipAll eq s1 s2 <;> rfl
  · rw [zipAll_ne eq h]
    simp only [h, decide_false, Bool.not_false, cond_true]

/-! ### podestaref04.Key: function 18 -/
noncomputable def podestaref04_Key_F : Go.Sh.Fn := ⟨18, bodyOf Try.f18, 17⟩
def podestaref04_Key_k0 : List Kd := [.pure, .read, .pure, .read, .pure, .pure, .pure, .read, .pure, .read, .pure, .pure, .pure]
def podestaref04_Key (a : Rule) (b : Rule) : Bool :=
  (((a.Match.Value == b.Match.Value) && (a.Match.Care == b.Match.Care)) && (a.Prio == b.Prio))
theorem podestaref04_Key_walk (a : Rule) (b : Rule) (r : Bool) (H : podestaref04_Key a b = r) :
    ACalls Try.prog tab.S 18 [Rule.av a, Rule.av b] [] (.sc (.bool r)) [] := by
  have hG := tab_ok
  have hm := mixed
  refine ACalls.of_AR (G := tab) podestaref04_Key_F (fn := Try.f18) Try.func18 (by kernel_rfl) (by kernel_rfl) (by kernel_rfl) (Nat.le_of_ble_eq_true (by kernel_rfl)) ?_
  intro c0 hc0
  replace hc0 : c0.m.length = 0 := hc0
  rw [podestaref04_Key] at H
  refine AR.seg hG hm 3 [2, 3] (k' := [.code [1, 0], .code [1, 1]]) (t' := [(2, .ptr 0 0 none), (3, .ptr 1 0 none)]) (h' := [.box 34 [.arr .u64 12 a.Match.Value, .arr .u64 12 a.Match.Care, .sc (.int .i64 a.Prio), .sl 42 (List.map Act.av a.Acts) false, .sc (.int .i64 a.Idle), .sc (.int .i64 a.Hard), .sc (.int .i64 a.Owner), .sc (.int .i64 a.Hits), .sc (.int .i64 a.Quiet), .sc (.int .i64 a.Age)], .box 34 [.arr .u64 12 b.Match.Value, .arr .u64 12 b.Match.Care, .sc (.int .i64 b.Prio), .sl 42 (List.map Act.av b.Acts) false, .sc (.int .i64 b.Idle), .sc (.int .i64 b.Hard), .sc (.int .i64 b.Owner), .sc (.int .i64 b.Hits), .sc (.int .i64 b.Quiet), .sc (.int .i64 b.Age)]]) (by kernel_rfl) ?_
  refine AR.reg hm podestaref04_Key_k0 (by kernel_rfl) ?_
  refine DK.seg hG 4 [2, 3, 6, 8] (t' := [(2, .ptr 0 0 none), (3, .ptr 1 0 none), (6, Cube.av a.Match), (8, Cube.av b.Match)]) (h' := [.box 34 [.arr .u64 12 a.Match.Value, .arr .u64 12 a.Match.Care, .sc (.int .i64 a.Prio), .sl 42 (List.map Act.av a.Acts) false, .sc (.int .i64 a.Idle), .sc (.int .i64 a.Hard), .sc (.int .i64 a.Owner), .sc (.int .i64 a.Hits), .sc (.int .i64 a.Quiet), .sc (.int .i64 a.Age)], .box 34 [.arr .u64 12 b.Match.Value, .arr .u64 12 b.Match.Care, .sc (.int .i64 b.Prio), .sl 42 (List.map Act.av b.Acts) false, .sc (.int .i64 b.Idle), .sc (.int .i64 b.Hard), .sc (.int .i64 b.Owner), .sc (.int .i64 b.Hits), .sc (.int .i64 b.Quiet), .sc (.int .i64 b.Age)]]) (by kernel_rfl) rfl ?_
  refine DK.op' [2, 3, 9] (t' := [(2, .ptr 0 0 none), (3, .ptr 1 0 none), (9, .sc (.bool ((a.Match.Value == b.Match.Value) && (a.Match.Care == b.Match.Care))))]) (h' := [.box 34 [.arr .u64 12 a.Match.Value, .arr .u64 12 a.Match.Care, .sc (.int .i64 a.Prio), .sl 42 (List.map Act.av a.Acts) false, .sc (.int .i64 a.Idle), .sc (.int .i64 a.Hard), .sc (.int .i64 a.Owner), .sc (.int .i64 a.Hits), .sc (.int .i64 a.Quiet), .sc (.int .i64 a.Age)], .box 34 [.arr .u64 12 b.Match.Value, .arr .u64 12 b.Match.Care, .sc (.int .i64 b.Prio), .sl 42 (List.map Act.av b.Acts) false, .sc (.int .i64 b.Idle), .sc (.int .i64 b.Hard), .sc (.int .i64 b.Owner), .sc (.int .i64 b.Hits), .sc (.int .i64 b.Quiet), .sc (.int .i64 b.Age)]]) (LSpec.eq' 9 (r := ((a.Match.Value == b.Match.Value) && (a.Match.Care == b.Match.Care))) (by kernel_rfl)) (by kernel_rfl) rfl (by kernel_rfl) rfl ?_
  refine DK.seg hG 1 [2, 3, 10] (t' := [(2, .ptr 0 0 none), (3, .ptr 1 0 none), (10, .sc (.bool ((a.Match.Value == b.Match.Value) && (a.Match.Care == b.Match.Care))))]) (h' := [.box 34 [.arr .u64 12 a.Match.Value, .arr .u64 12 a.Match.Care, .sc (.int .i64 a.Prio), .sl 42 (List.map Act.av a.Acts) false, .sc (.int .i64 a.Idle), .sc (.int .i64 a.Hard), .sc (.int .i64 a.Owner), .sc (.int .i64 a.Hits), .sc (.int .i64 a.Quiet), .sc (.int .i64 a.Age)], .box 34 [.arr .u64 12 b.Match.Value, .arr .u64 12 b.Match.Care, .sc (.int .i64 b.Prio), .sl 42 (List.map Act.av b.Acts) false, .sc (.int .i64 b.Idle), .sc (.int .i64 b.Hard), .sc (.int .i64 b.Owner), .sc (.int .i64 b.Hits), .sc (.int .i64 b.Quiet), .sc (.int .i64 b.Age)]]) (by kernel_rfl) rfl ?_
  refine DK.mux 10 ((a.Match.Value == b.Match.Value) && (a.Match.Care == b.Match.Care)) (j := 12) (h' := [.box 34 [.arr .u64 12 a.Match.Value, .arr .u64 12 a.Match.Care, .sc (.int .i64 a.Prio), .sl 42 (List.map Act.av a.Acts) false, .sc (.int .i64 a.Idle), .sc (.int .i64 a.Hard), .sc (.int .i64 a.Owner), .sc (.int .i64 a.Hits), .sc (.int .i64 a.Quiet), .sc (.int .i64 a.Age)], .box 34 [.arr .u64 12 b.Match.Value, .arr .u64 12 b.Match.Care, .sc (.int .i64 b.Prio), .sl 42 (List.map Act.av b.Acts) false, .sc (.int .i64 b.Idle), .sc (.int .i64 b.Hard), .sc (.int .i64 b.Owner), .sc (.int .i64 b.Hits), .sc (.int .i64 b.Quiet), .sc (.int .i64 b.Age)]]) (by kernel_rfl) (fun z => [(16, .sc (.bool (z && (a.Prio == b.Prio))))]) ?J1 (fun hb J => ?ht1) (fun hb J => ?hf1)
  case ht1 =>
    exact DK.seg hG 6 [16] (by kernel_rfl) rfl J
  case hf1 =>
    exact DK.seg hG 6 [16] (by kernel_rfl) rfl J
  refine DK.seg hG 1 [4] (t' := [(4, .sc (.bool (((a.Match.Value == b.Match.Value) && (a.Match.Care == b.Match.Care)) && (a.Prio == b.Prio))))]) (h' := [.box 34 [.arr .u64 12 a.Match.Value, .arr .u64 12 a.Match.Care, .sc (.int .i64 a.Prio), .sl 42 (List.map Act.av a.Acts) false, .sc (.int .i64 a.Idle), .sc (.int .i64 a.Hard), .sc (.int .i64 a.Owner), .sc (.int .i64 a.Hits), .sc (.int .i64 a.Quiet), .sc (.int .i64 a.Age)], .box 34 [.arr .u64 12 b.Match.Value, .arr .u64 12 b.Match.Care, .sc (.int .i64 b.Prio), .sl 42 (List.map Act.av b.Acts) false, .sc (.int .i64 b.Idle), .sc (.int .i64 b.Hard), .sc (.int .i64 b.Owner), .sc (.int .i64 b.Hits), .sc (.int .i64 b.Quiet), .sc (.int .i64 b.Age)]]) (by kernel_rfl) rfl ?_
  refine DK.done (by kernel_rfl) (by kernel_rfl) ?_
  subst H
  exact AR.ret0 (fn := Try.f18) hG Try.func18 (by kernel_rfl) hc0 (r0 := .sc (.bool (((a.Match.Value == b.Match.Value) && (a.Match.Care == b.Match.Care)) && (a.Prio == b.Prio)))) (by kernel_rfl) (WkV.refl _)
theorem podestaref04_Key_calls (a : Rule) (b : Rule) : ACalls Try.prog tab.S 18 [Rule.av a, Rule.av b] [] (.sc (.bool (podestaref04_Key a b))) [] := podestaref04_Key_walk a b _ rfl

/-! ### podestaref04.Equal: function 47 -/
noncomputable def podestaref04_Equal_F : Go.Sh.Fn := ⟨47, bodyOf Try.f47, 57⟩
def podestaref04_Equal_k0 : List Kd := [.read, .read, .pure, .pure, .pure, .read, .pure, .read, .pure, .pure, .pure, .pure, .read, .pure, .read, .pure, .pure, .pure, .pure, .read, .pure, .read, .pure, .pure, .pure, .pure, .read, .pure, .read, .pure, .pure, .pure, .pure, .read, .pure, .read, .pure, .pure, .pure, .pure, .read, .pure, .read, .pure, .pure, .pure, .pure, .read, .pure, .read, .pure, .pure, .pure]
def podestaref04_Equal (a : Rule) (b : Rule) : Bool :=
  ((((((((podestaref04_Key a b) && (a.Acts == b.Acts)) && (a.Idle == b.Idle)) && (a.Hard == b.Hard)) && (a.Owner == b.Owner)) && (a.Hits == b.Hits)) && (a.Quiet == b.Quiet)) && (a.Age == b.Age))
theorem podestaref04_Equal_walk (a : Rule) (b : Rule) (r : Bool) (H : podestaref04_Equal a b = r) :
    ACalls Try.prog tab.S 47 [Rule.av a, Rule.av b] [] (.sc (.bool r)) [] := by
  have hG := tab_ok
  have hm := mixed
  refine ACalls.of_AR (G := tab) podestaref04_Equal_F (fn := Try.f47) Try.func47 (by kernel_rfl) (by kernel_rfl) (by kernel_rfl) (Nat.le_of_ble_eq_true (by kernel_rfl)) ?_
  intro c0 hc0
  replace hc0 : c0.m.length = 0 := hc0
  rw [podestaref04_Equal] at H
  refine AR.seg hG hm 3 [2, 3] (k' := [.code [1, 0], .code [1, 1]]) (t' := [(2, .ptr 0 0 none), (3, .ptr 1 0 none)]) (h' := [.box 34 [.arr .u64 12 a.Match.Value, .arr .u64 12 a.Match.Care, .sc (.int .i64 a.Prio), .sl 42 (List.map Act.av a.Acts) false, .sc (.int .i64 a.Idle), .sc (.int .i64 a.Hard), .sc (.int .i64 a.Owner), .sc (.int .i64 a.Hits), .sc (.int .i64 a.Quiet), .sc (.int .i64 a.Age)], .box 34 [.arr .u64 12 b.Match.Value, .arr .u64 12 b.Match.Care, .sc (.int .i64 b.Prio), .sl 42 (List.map Act.av b.Acts) false, .sc (.int .i64 b.Idle), .sc (.int .i64 b.Hard), .sc (.int .i64 b.Owner), .sc (.int .i64 b.Hits), .sc (.int .i64 b.Quiet), .sc (.int .i64 b.Age)]]) (by kernel_rfl) ?_
  refine AR.reg hm podestaref04_Equal_k0 (by kernel_rfl) ?_
  refine DK.seg hG 2 [2, 3, 5, 6] (t' := [(2, .ptr 0 0 none), (3, .ptr 1 0 none), (5, Rule.av a), (6, Rule.av b)]) (h' := [.box 34 [.arr .u64 12 a.Match.Value, .arr .u64 12 a.Match.Care, .sc (.int .i64 a.Prio), .sl 42 (List.map Act.av a.Acts) false, .sc (.int .i64 a.Idle), .sc (.int .i64 a.Hard), .sc (.int .i64 a.Owner), .sc (.int .i64 a.Hits), .sc (.int .i64 a.Quiet), .sc (.int .i64 a.Age)], .box 34 [.arr .u64 12 b.Match.Value, .arr .u64 12 b.Match.Care, .sc (.int .i64 b.Prio), .sl 42 (List.map Act.av b.Acts) false, .sc (.int .i64 b.Idle), .sc (.int .i64 b.Hard), .sc (.int .i64 b.Owner), .sc (.int .i64 b.Hits), .sc (.int .i64 b.Quiet), .sc (.int .i64 b.Age)]]) (by kernel_rfl) rfl ?_
  refine DK.op' [2, 3, 7] (t' := [(2, .ptr 0 0 none), (3, .ptr 1 0 none), (7, .sc (.bool (podestaref04_Key a b)))]) (h' := [.box 34 [.arr .u64 12 a.Match.Value, .arr .u64 12 a.Match.Care, .sc (.int .i64 a.Prio), .sl 42 (List.map Act.av a.Acts) false, .sc (.int .i64 a.Idle), .sc (.int .i64 a.Hard), .sc (.int .i64 a.Owner), .sc (.int .i64 a.Hits), .sc (.int .i64 a.Quiet), .sc (.int .i64 a.Age)], .box 34 [.arr .u64 12 b.Match.Value, .arr .u64 12 b.Match.Care, .sc (.int .i64 b.Prio), .sl 42 (List.map Act.av b.Acts) false, .sc (.int .i64 b.Idle), .sc (.int .i64 b.Hard), .sc (.int .i64 b.Owner), .sc (.int .i64 b.Hits), .sc (.int .i64 b.Quiet), .sc (.int .i64 b.Age)]]) (LSpec.callP' (podestaref04_Key_calls a b) (by kernel_rfl)) (by kernel_rfl) rfl (by kernel_rfl) rfl ?_
  refine DK.seg hG 1 [2, 3, 8] (t' := [(2, .ptr 0 0 none), (3, .ptr 1 0 none), (8, .sc (.bool (podestaref04_Key a b)))]) (h' := [.box 34 [.arr .u64 12 a.Match.Value, .arr .u64 12 a.Match.Care, .sc (.int .i64 a.Prio), .sl 42 (List.map Act.av a.Acts) false, .sc (.int .i64 a.Idle), .sc (.int .i64 a.Hard), .sc (.int .i64 a.Owner), .sc (.int .i64 a.Hits), .sc (.int .i64 a.Quiet), .sc (.int .i64 a.Age)], .box 34 [.arr .u64 12 b.Match.Value, .arr .u64 12 b.Match.Care, .sc (.int .i64 b.Prio), .sl 42 (List.map Act.av b.Acts) false, .sc (.int .i64 b.Idle), .sc (.int .i64 b.Hard), .sc (.int .i64 b.Owner), .sc (.int .i64 b.Hits), .sc (.int .i64 b.Quiet), .sc (.int .i64 b.Age)]]) (by kernel_rfl) rfl ?_
  refine DK.mux 8 (podestaref04_Key a b) (j := 10) (h' := [.box 34 [.arr .u64 12 a.Match.Value, .arr .u64 12 a.Match.Care, .sc (.int .i64 a.Prio), .sl 42 (List.map Act.av a.Acts) false, .sc (.int .i64 a.Idle), .sc (.int .i64 a.Hard), .sc (.int .i64 a.Owner), .sc (.int .i64 a.Hits), .sc (.int .i64 a.Quiet), .sc (.int .i64 a.Age)], .box 34 [.arr .u64 12 b.Match.Value, .arr .u64 12 b.Match.Care, .sc (.int .i64 b.Prio), .sl 42 (List.map Act.av b.Acts) false, .sc (.int .i64 b.Idle), .sc (.int .i64 b.Hard), .sc (.int .i64 b.Owner), .sc (.int .i64 b.Hits), .sc (.int .i64 b.Quiet), .sc (.int .i64 b.Age)]]) (by kernel_rfl) (fun z => [(2, .ptr 0 0 none), (3, .ptr 1 0 none), (14, .sc (.bool (z && (a.Acts == b.Acts))))]) ?J1 (fun hb J => ?ht1) (fun hb J => ?hf1)
  case ht1 =>
    refine DK.seg hG 4 [2, 3, 8, 10, 12] (t' := [(2, .ptr 0 0 none), (3, .ptr 1 0 none), (8, .sc (.bool true)), (10, .sl 42 (List.map Act.av a.Acts) false), (12, .sl 42 (List.map Act.av b.Acts) false)]) (h' := [.box 34 [.arr .u64 12 a.Match.Value, .arr .u64 12 a.Match.Care, .sc (.int .i64 a.Prio), .sl 42 (List.map Act.av a.Acts) false, .sc (.int .i64 a.Idle), .sc (.int .i64 a.Hard), .sc (.int .i64 a.Owner), .sc (.int .i64 a.Hits), .sc (.int .i64 a.Quiet), .sc (.int .i64 a.Age)], .box 34 [.arr .u64 12 b.Match.Value, .arr .u64 12 b.Match.Care, .sc (.int .i64 b.Prio), .sl 42 (List.map Act.av b.Acts) false, .sc (.int .i64 b.Idle), .sc (.int .i64 b.Hard), .sc (.int .i64 b.Owner), .sc (.int .i64 b.Hits), .sc (.int .i64 b.Quiet), .sc (.int .i64 b.Age)]]) (by kernel_rfl) rfl ?_
    refine DK.op' [2, 3, 8, 13] (t' := [(2, .ptr 0 0 none), (3, .ptr 1 0 none), (8, .sc (.bool true)), (13, .sc (.bool (a.Acts == b.Acts)))]) (h' := [.box 34 [.arr .u64 12 a.Match.Value, .arr .u64 12 a.Match.Care, .sc (.int .i64 a.Prio), .sl 42 (List.map Act.av a.Acts) false, .sc (.int .i64 a.Idle), .sc (.int .i64 a.Hard), .sc (.int .i64 a.Owner), .sc (.int .i64 a.Hits), .sc (.int .i64 a.Quiet), .sc (.int .i64 a.Age)], .box 34 [.arr .u64 12 b.Match.Value, .arr .u64 12 b.Match.Care, .sc (.int .i64 b.Prio), .sl 42 (List.map Act.av b.Acts) false, .sc (.int .i64 b.Idle), .sc (.int .i64 b.Hard), .sc (.int .i64 b.Owner), .sc (.int .i64 b.Hits), .sc (.int .i64 b.Quiet), .sc (.int .i64 b.Age)]]) (LSpec.callP' (podestaref04_SameActs_ok a.Acts b.Acts false false) (by kernel_rfl)) (by kernel_rfl) rfl (by kernel_rfl) rfl ?_
    exact DK.seg hG 1 [2, 3, 14] (by kernel_rfl) rfl J
  case hf1 =>
    exact DK.seg hG 6 [2, 3, 14] (by kernel_rfl) rfl J
  refine DK.seg hG 1 [2, 3, 15] (t' := [(2, .ptr 0 0 none), (3, .ptr 1 0 none), (15, .sc (.bool ((podestaref04_Key a b) && (a.Acts == b.Acts))))]) (h' := [.box 34 [.arr .u64 12 a.Match.Value, .arr .u64 12 a.Match.Care, .sc (.int .i64 a.Prio), .sl 42 (List.map Act.av a.Acts) false, .sc (.int .i64 a.Idle), .sc (.int .i64 a.Hard), .sc (.int .i64 a.Owner), .sc (.int .i64 a.Hits), .sc (.int .i64 a.Quiet), .sc (.int .i64 a.Age)], .box 34 [.arr .u64 12 b.Match.Value, .arr .u64 12 b.Match.Care, .sc (.int .i64 b.Prio), .sl 42 (List.map Act.av b.Acts) false, .sc (.int .i64 b.Idle), .sc (.int .i64 b.Hard), .sc (.int .i64 b.Owner), .sc (.int .i64 b.Hits), .sc (.int .i64 b.Quiet), .sc (.int .i64 b.Age)]]) (by kernel_rfl) rfl ?_
  refine DK.mux 15 ((podestaref04_Key a b) && (a.Acts == b.Acts)) (j := 17) (h' := [.box 34 [.arr .u64 12 a.Match.Value, .arr .u64 12 a.Match.Care, .sc (.int .i64 a.Prio), .sl 42 (List.map Act.av a.Acts) false, .sc (.int .i64 a.Idle), .sc (.int .i64 a.Hard), .sc (.int .i64 a.Owner), .sc (.int .i64 a.Hits), .sc (.int .i64 a.Quiet), .sc (.int .i64 a.Age)], .box 34 [.arr .u64 12 b.Match.Value, .arr .u64 12 b.Match.Care, .sc (.int .i64 b.Prio), .sl 42 (List.map Act.av b.Acts) false, .sc (.int .i64 b.Idle), .sc (.int .i64 b.Hard), .sc (.int .i64 b.Owner), .sc (.int .i64 b.Hits), .sc (.int .i64 b.Quiet), .sc (.int .i64 b.Age)]]) (by kernel_rfl) (fun z => [(2, .ptr 0 0 none), (3, .ptr 1 0 none), (21, .sc (.bool (z && (a.Idle == b.Idle))))]) ?J2 (fun hb J => ?ht2) (fun hb J => ?hf2)
  case ht2 =>
    exact DK.seg hG 6 [2, 3, 21] (by kernel_rfl) rfl J
  case hf2 =>
    exact DK.seg hG 6 [2, 3, 21] (by kernel_rfl) rfl J
  refine DK.seg hG 1 [2, 3, 22] (t' := [(2, .ptr 0 0 none), (3, .ptr 1 0 none), (22, .sc (.bool (((podestaref04_Key a b) && (a.Acts == b.Acts)) && (a.Idle == b.Idle))))]) (h' := [.box 34 [.arr .u64 12 a.Match.Value, .arr .u64 12 a.Match.Care, .sc (.int .i64 a.Prio), .sl 42 (List.map Act.av a.Acts) false, .sc (.int .i64 a.Idle), .sc (.int .i64 a.Hard), .sc (.int .i64 a.Owner), .sc (.int .i64 a.Hits), .sc (.int .i64 a.Quiet), .sc (.int .i64 a.Age)], .box 34 [.arr .u64 12 b.Match.Value, .arr .u64 12 b.Match.Care, .sc (.int .i64 b.Prio), .sl 42 (List.map Act.av b.Acts) false, .sc (.int .i64 b.Idle), .sc (.int .i64 b.Hard), .sc (.int .i64 b.Owner), .sc (.int .i64 b.Hits), .sc (.int .i64 b.Quiet), .sc (.int .i64 b.Age)]]) (by kernel_rfl) rfl ?_
  refine DK.mux 22 (((podestaref04_Key a b) && (a.Acts == b.Acts)) && (a.Idle == b.Idle)) (j := 24) (h' := [.box 34 [.arr .u64 12 a.Match.Value, .arr .u64 12 a.Match.Care, .sc (.int .i64 a.Prio), .sl 42 (List.map Act.av a.Acts) false, .sc (.int .i64 a.Idle), .sc (.int .i64 a.Hard), .sc (.int .i64 a.Owner), .sc (.int .i64 a.Hits), .sc (.int .i64 a.Quiet), .sc (.int .i64 a.Age)], .box 34 [.arr .u64 12 b.Match.Value, .arr .u64 12 b.Match.Care, .sc (.int .i64 b.Prio), .sl 42 (List.map Act.av b.Acts) false, .sc (.int .i64 b.Idle), .sc (.int .i64 b.Hard), .sc (.int .i64 b.Owner), .sc (.int .i64 b.Hits), .sc (.int .i64 b.Quiet), .sc (.int .i64 b.Age)]]) (by kernel_rfl) (fun z => [(2, .ptr 0 0 none), (3, .ptr 1 0 none), (28, .sc (.bool (z && (a.Hard == b.Hard))))]) ?J3 (fun hb J => ?ht3) (fun hb J => ?hf3)
  case ht3 =>
    exact DK.seg hG 6 [2, 3, 28] (by kernel_rfl) rfl J
  case hf3 =>
    exact DK.seg hG 6 [2, 3, 28] (by kernel_rfl) rfl J
  refine DK.seg hG 1 [2, 3, 29] (t' := [(2, .ptr 0 0 none), (3, .ptr 1 0 none), (29, .sc (.bool ((((podestaref04_Key a b) && (a.Acts == b.Acts)) && (a.Idle == b.Idle)) && (a.Hard == b.Hard))))]) (h' := [.box 34 [.arr .u64 12 a.Match.Value, .arr .u64 12 a.Match.Care, .sc (.int .i64 a.Prio), .sl 42 (List.map Act.av a.Acts) false, .sc (.int .i64 a.Idle), .sc (.int .i64 a.Hard), .sc (.int .i64 a.Owner), .sc (.int .i64 a.Hits), .sc (.int .i64 a.Quiet), .sc (.int .i64 a.Age)], .box 34 [.arr .u64 12 b.Match.Value, .arr .u64 12 b.Match.Care, .sc (.int .i64 b.Prio), .sl 42 (List.map Act.av b.Acts) false, .sc (.int .i64 b.Idle), .sc (.int .i64 b.Hard), .sc (.int .i64 b.Owner), .sc (.int .i64 b.Hits), .sc (.int .i64 b.Quiet), .sc (.int .i64 b.Age)]]) (by kernel_rfl) rfl ?_
  refine DK.mux 29 ((((podestaref04_Key a b) && (a.Acts == b.Acts)) && (a.Idle == b.Idle)) && (a.Hard == b.Hard)) (j := 31) (h' := [.box 34 [.arr .u64 12 a.Match.Value, .arr .u64 12 a.Match.Care, .sc (.int .i64 a.Prio), .sl 42 (List.map Act.av a.Acts) false, .sc (.int .i64 a.Idle), .sc (.int .i64 a.Hard), .sc (.int .i64 a.Owner), .sc (.int .i64 a.Hits), .sc (.int .i64 a.Quiet), .sc (.int .i64 a.Age)], .box 34 [.arr .u64 12 b.Match.Value, .arr .u64 12 b.Match.Care, .sc (.int .i64 b.Prio), .sl 42 (List.map Act.av b.Acts) false, .sc (.int .i64 b.Idle), .sc (.int .i64 b.Hard), .sc (.int .i64 b.Owner), .sc (.int .i64 b.Hits), .sc (.int .i64 b.Quiet), .sc (.int .i64 b.Age)]]) (by kernel_rfl) (fun z => [(2, .ptr 0 0 none), (3, .ptr 1 0 none), (35, .sc (.bool (z && (a.Owner == b.Owner))))]) ?J4 (fun hb J => ?ht4) (fun hb J => ?hf4)
  case ht4 =>
    exact DK.seg hG 6 [2, 3, 35] (by kernel_rfl) rfl J
  case hf4 =>
    exact DK.seg hG 6 [2, 3, 35] (by kernel_rfl) rfl J
  refine DK.seg hG 1 [2, 3, 36] (t' := [(2, .ptr 0 0 none), (3, .ptr 1 0 none), (36, .sc (.bool (((((podestaref04_Key a b) && (a.Acts == b.Acts)) && (a.Idle == b.Idle)) && (a.Hard == b.Hard)) && (a.Owner == b.Owner))))]) (h' := [.box 34 [.arr .u64 12 a.Match.Value, .arr .u64 12 a.Match.Care, .sc (.int .i64 a.Prio), .sl 42 (List.map Act.av a.Acts) false, .sc (.int .i64 a.Idle), .sc (.int .i64 a.Hard), .sc (.int .i64 a.Owner), .sc (.int .i64 a.Hits), .sc (.int .i64 a.Quiet), .sc (.int .i64 a.Age)], .box 34 [.arr .u64 12 b.Match.Value, .arr .u64 12 b.Match.Care, .sc (.int .i64 b.Prio), .sl 42 (List.map Act.av b.Acts) false, .sc (.int .i64 b.Idle), .sc (.int .i64 b.Hard), .sc (.int .i64 b.Owner), .sc (.int .i64 b.Hits), .sc (.int .i64 b.Quiet), .sc (.int .i64 b.Age)]]) (by kernel_rfl) rfl ?_
  refine DK.mux 36 (((((podestaref04_Key a b) && (a.Acts == b.Acts)) && (a.Idle == b.Idle)) && (a.Hard == b.Hard)) && (a.Owner == b.Owner)) (j := 38) (h' := [.box 34 [.arr .u64 12 a.Match.Value, .arr .u64 12 a.Match.Care, .sc (.int .i64 a.Prio), .sl 42 (List.map Act.av a.Acts) false, .sc (.int .i64 a.Idle), .sc (.int .i64 a.Hard), .sc (.int .i64 a.Owner), .sc (.int .i64 a.Hits), .sc (.int .i64 a.Quiet), .sc (.int .i64 a.Age)], .box 34 [.arr .u64 12 b.Match.Value, .arr .u64 12 b.Match.Care, .sc (.int .i64 b.Prio), .sl 42 (List.map Act.av b.Acts) false, .sc (.int .i64 b.Idle), .sc (.int .i64 b.Hard), .sc (.int .i64 b.Owner), .sc (.int .i64 b.Hits), .sc (.int .i64 b.Quiet), .sc (.int .i64 b.Age)]]) (by kernel_rfl) (fun z => [(2, .ptr 0 0 none), (3, .ptr 1 0 none), (42, .sc (.bool (z && (a.Hits == b.Hits))))]) ?J5 (fun hb J => ?ht5) (fun hb J => ?hf5)
  case ht5 =>
    exact DK.seg hG 6 [2, 3, 42] (by kernel_rfl) rfl J
  case hf5 =>
    exact DK.seg hG 6 [2, 3, 42] (by kernel_rfl) rfl J
  refine DK.seg hG 1 [2, 3, 43] (t' := [(2, .ptr 0 0 none), (3, .ptr 1 0 none), (43, .sc (.bool ((((((podestaref04_Key a b) && (a.Acts == b.Acts)) && (a.Idle == b.Idle)) && (a.Hard == b.Hard)) && (a.Owner == b.Owner)) && (a.Hits == b.Hits))))]) (h' := [.box 34 [.arr .u64 12 a.Match.Value, .arr .u64 12 a.Match.Care, .sc (.int .i64 a.Prio), .sl 42 (List.map Act.av a.Acts) false, .sc (.int .i64 a.Idle), .sc (.int .i64 a.Hard), .sc (.int .i64 a.Owner), .sc (.int .i64 a.Hits), .sc (.int .i64 a.Quiet), .sc (.int .i64 a.Age)], .box 34 [.arr .u64 12 b.Match.Value, .arr .u64 12 b.Match.Care, .sc (.int .i64 b.Prio), .sl 42 (List.map Act.av b.Acts) false, .sc (.int .i64 b.Idle), .sc (.int .i64 b.Hard), .sc (.int .i64 b.Owner), .sc (.int .i64 b.Hits), .sc (.int .i64 b.Quiet), .sc (.int .i64 b.Age)]]) (by kernel_rfl) rfl ?_
  refine DK.mux 43 ((((((podestaref04_Key a b) && (a.Acts == b.Acts)) && (a.Idle == b.Idle)) && (a.Hard == b.Hard)) && (a.Owner == b.Owner)) && (a.Hits == b.Hits)) (j := 45) (h' := [.box 34 [.arr .u64 12 a.Match.Value, .arr .u64 12 a.Match.Care, .sc (.int .i64 a.Prio), .sl 42 (List.map Act.av a.Acts) false, .sc (.int .i64 a.Idle), .sc (.int .i64 a.Hard), .sc (.int .i64 a.Owner), .sc (.int .i64 a.Hits), .sc (.int .i64 a.Quiet), .sc (.int .i64 a.Age)], .box 34 [.arr .u64 12 b.Match.Value, .arr .u64 12 b.Match.Care, .sc (.int .i64 b.Prio), .sl 42 (List.map Act.av b.Acts) false, .sc (.int .i64 b.Idle), .sc (.int .i64 b.Hard), .sc (.int .i64 b.Owner), .sc (.int .i64 b.Hits), .sc (.int .i64 b.Quiet), .sc (.int .i64 b.Age)]]) (by kernel_rfl) (fun z => [(2, .ptr 0 0 none), (3, .ptr 1 0 none), (49, .sc (.bool (z && (a.Quiet == b.Quiet))))]) ?J6 (fun hb J => ?ht6) (fun hb J => ?hf6)
  case ht6 =>
    exact DK.seg hG 6 [2, 3, 49] (by kernel_rfl) rfl J
  case hf6 =>
    exact DK.seg hG 6 [2, 3, 49] (by kernel_rfl) rfl J
  refine DK.seg hG 1 [2, 3, 50] (t' := [(2, .ptr 0 0 none), (3, .ptr 1 0 none), (50, .sc (.bool (((((((podestaref04_Key a b) && (a.Acts == b.Acts)) && (a.Idle == b.Idle)) && (a.Hard == b.Hard)) && (a.Owner == b.Owner)) && (a.Hits == b.Hits)) && (a.Quiet == b.Quiet))))]) (h' := [.box 34 [.arr .u64 12 a.Match.Value, .arr .u64 12 a.Match.Care, .sc (.int .i64 a.Prio), .sl 42 (List.map Act.av a.Acts) false, .sc (.int .i64 a.Idle), .sc (.int .i64 a.Hard), .sc (.int .i64 a.Owner), .sc (.int .i64 a.Hits), .sc (.int .i64 a.Quiet), .sc (.int .i64 a.Age)], .box 34 [.arr .u64 12 b.Match.Value, .arr .u64 12 b.Match.Care, .sc (.int .i64 b.Prio), .sl 42 (List.map Act.av b.Acts) false, .sc (.int .i64 b.Idle), .sc (.int .i64 b.Hard), .sc (.int .i64 b.Owner), .sc (.int .i64 b.Hits), .sc (.int .i64 b.Quiet), .sc (.int .i64 b.Age)]]) (by kernel_rfl) rfl ?_
  refine DK.mux 50 (((((((podestaref04_Key a b) && (a.Acts == b.Acts)) && (a.Idle == b.Idle)) && (a.Hard == b.Hard)) && (a.Owner == b.Owner)) && (a.Hits == b.Hits)) && (a.Quiet == b.Quiet)) (j := 52) (h' := [.box 34 [.arr .u64 12 a.Match.Value, .arr .u64 12 a.Match.Care, .sc (.int .i64 a.Prio), .sl 42 (List.map Act.av a.Acts) false, .sc (.int .i64 a.Idle), .sc (.int .i64 a.Hard), .sc (.int .i64 a.Owner), .sc (.int .i64 a.Hits), .sc (.int .i64 a.Quiet), .sc (.int .i64 a.Age)], .box 34 [.arr .u64 12 b.Match.Value, .arr .u64 12 b.Match.Care, .sc (.int .i64 b.Prio), .sl 42 (List.map Act.av b.Acts) false, .sc (.int .i64 b.Idle), .sc (.int .i64 b.Hard), .sc (.int .i64 b.Owner), .sc (.int .i64 b.Hits), .sc (.int .i64 b.Quiet), .sc (.int .i64 b.Age)]]) (by kernel_rfl) (fun z => [(56, .sc (.bool (z && (a.Age == b.Age))))]) ?J7 (fun hb J => ?ht7) (fun hb J => ?hf7)
  case ht7 =>
    exact DK.seg hG 6 [56] (by kernel_rfl) rfl J
  case hf7 =>
    exact DK.seg hG 6 [56] (by kernel_rfl) rfl J
  refine DK.seg hG 1 [4] (t' := [(4, .sc (.bool ((((((((podestaref04_Key a b) && (a.Acts == b.Acts)) && (a.Idle == b.Idle)) && (a.Hard == b.Hard)) && (a.Owner == b.Owner)) && (a.Hits == b.Hits)) && (a.Quiet == b.Quiet)) && (a.Age == b.Age))))]) (h' := [.box 34 [.arr .u64 12 a.Match.Value, .arr .u64 12 a.Match.Care, .sc (.int .i64 a.Prio), .sl 42 (List.map Act.av a.Acts) false, .sc (.int .i64 a.Idle), .sc (.int .i64 a.Hard), .sc (.int .i64 a.Owner), .sc (.int .i64 a.Hits), .sc (.int .i64 a.Quiet), .sc (.int .i64 a.Age)], .box 34 [.arr .u64 12 b.Match.Value, .arr .u64 12 b.Match.Care, .sc (.int .i64 b.Prio), .sl 42 (List.map Act.av b.Acts) false, .sc (.int .i64 b.Idle), .sc (.int .i64 b.Hard), .sc (.int .i64 b.Owner), .sc (.int .i64 b.Hits), .sc (.int .i64 b.Quiet), .sc (.int .i64 b.Age)]]) (by kernel_rfl) rfl ?_
  refine DK.done (by kernel_rfl) (by kernel_rfl) ?_
  subst H
  exact AR.ret0 (fn := Try.f47) hG Try.func47 (by kernel_rfl) hc0 (r0 := .sc (.bool ((((((((podestaref04_Key a b) && (a.Acts == b.Acts)) && (a.Idle == b.Idle)) && (a.Hard == b.Hard)) && (a.Owner == b.Owner)) && (a.Hits == b.Hits)) && (a.Quiet == b.Quiet)) && (a.Age == b.Age)))) (by kernel_rfl) (WkV.refl _)
theorem podestaref04_Equal_calls (a : Rule) (b : Rule) : ACalls Try.prog tab.S 47 [Rule.av a, Rule.av b] [] (.sc (.bool (podestaref04_Equal a b))) [] := podestaref04_Equal_walk a b _ rfl

/-! ### podestaref04.Same: function 23 -/
noncomputable def podestaref04_Same_F : Go.Sh.Fn := ⟨23, bodyOf Try.f23, 27⟩
def podestaref04_Same_k0 : List Kd := [.pure, .pure, .pure, .pure, .pure, .pure, .pure, .pure, .pure, .pure]
def podestaref04_Same_l0s (b : List Rule) : List Rule → Nat → Option (Sum (Unit) (Bool))
  | [], i =>
    some (.inl ())
  | x :: rest, i =>
    (ixO b ((i : Nat) : Int)).bind fun x1 =>
    (bif (!(podestaref04_Equal x x1)) then
      some (.inr false)
    else
      podestaref04_Same_l0s b rest (i + 1) )
theorem podestaref04_Same_l0_walk (a : List Rule) (b : List Rule) (f_a : Bool) (f_b : Bool) (r : Bool) (c0 : Ctx) (hc0 : c0.m.length = 0) (res : Sum (Unit) (Bool)) (J : ∀ w : Unit, res = .inl w → AR Try.prog tab podestaref04_Same_F c0 (Rp tab.S c0 (.sc (.bool r)) []) [.code [1, 1, 1]] [] []) (Jr : ∀ w, res = .inr w → w = r) :
    ∀ (rest : List Rule) (i : Nat) (hd : a.drop i = rest) (H : podestaref04_Same_l0s b rest i = some res), AR Try.prog tab podestaref04_Same_F c0 (Rp tab.S c0 (.sc (.bool r)) []) [.code [1, 1, 0, 1, 0, 0], .loop [1, 1, 0, 1, 0], .blk 0, .code [1, 1, 1]] [(0, .sl 34 (List.map Rule.av a) f_a), (1, .sl 34 (List.map Rule.av b) f_b), (5, .sc (.int .i64 ((i : Nat) : Int)))] [] := by
  have hG := tab_ok
  have hm := mixed
  intro rest
  induction rest with
  | nil =>
    intro i hd  H
    rw [podestaref04_Same_l0s] at H
    refine AR.facts 0 rfl fun hf => ?_
    have hlen : a.length ≤ 9223372036854775807 := by have hq := len_ok hf.2.1; rw [List.length_map] at hq; exact hq
    have hge : a.length ≤ i := List.drop_eq_nil_iff.1 hd
    have hc : (decide (((i : Nat) : Int) < (((List.map Rule.av a).length : Nat) : Int))) = false := by rw [List.length_map]; exact decide_eq_false (by omega)
    refine AR.seg hG hm 3 [0, 1, 5, 14] (k' := [.code [1, 1, 0, 1, 0, 0, 0, 1], .code [1, 1, 0, 1, 0, 0, 1], .loop [1, 1, 0, 1, 0], .blk 0, .code [1, 1, 1]]) (t' := [(0, .sl 34 (List.map Rule.av a) f_a), (1, .sl 34 (List.map Rule.av b) f_b), (5, .sc (.int .i64 ((i : Nat) : Int))), (14, .sc (.bool (decide (((i : Nat) : Int) < (((List.map Rule.av a).length : Nat) : Int)))))]) (h' := []) (by kernel_rfl) ?_
    refine AR.cond (.tmp 14) (decide (((i : Nat) : Int) < (((List.map Rule.av a).length : Nat) : Int))) (by kernel_rfl) (by kernel_rfl) (fun hb => ?ht8) (fun hb => ?hf8)
    case ht8 => exact absurd (hb.symm.trans hc) (by decide)
    case hf8 =>
      refine AR.seg hG hm 1 [] (k' := [.code [1, 1, 1]]) (t' := []) (h' := []) (by kernel_rfl) ?_
      refine AR.keep [] (t' := []) (by kernel_rfl) ?_
      exact J () (Option.some.inj H).symm
  | cons x rest ih =>
    intro i hd  H
    rw [podestaref04_Same_l0s] at H
    refine AR.facts 0 rfl fun hf => ?_
    have hlen : a.length ≤ 9223372036854775807 := by have hq := len_ok hf.2.1; rw [List.length_map] at hq; exact hq
    obtain ⟨hlt, hv_i, hd2⟩ := drop_cons hd
    have hc : (decide (((i : Nat) : Int) < (((List.map Rule.av a).length : Nat) : Int))) = true := by rw [List.length_map]; exact decide_eq_true (by omega)
    have hw : IntKind.i64.wrap (((i : Nat) : Int) + 1) = ((i + 1 : Nat) : Int) := wrapI_succ (by omega)
    refine AR.seg hG hm 3 [0, 1, 5, 14] (k' := [.code [1, 1, 0, 1, 0, 0, 0, 1], .code [1, 1, 0, 1, 0, 0, 1], .loop [1, 1, 0, 1, 0], .blk 0, .code [1, 1, 1]]) (t' := [(0, .sl 34 (List.map Rule.av a) f_a), (1, .sl 34 (List.map Rule.av b) f_b), (5, .sc (.int .i64 ((i : Nat) : Int))), (14, .sc (.bool (decide (((i : Nat) : Int) < (((List.map Rule.av a).length : Nat) : Int)))))]) (h' := []) (by kernel_rfl) ?_
    refine AR.cond (.tmp 14) (decide (((i : Nat) : Int) < (((List.map Rule.av a).length : Nat) : Int))) (by kernel_rfl) (by kernel_rfl) (fun hb => ?ht9) (fun hb => ?hf9)
    case ht9 =>
      refine AR.seg hG hm 4 [0, 1, 5] (k' := [.code [1, 1, 0, 1, 0, 0, 1, 0, 0, 0], .code [1, 1, 0, 1, 0, 0, 1, 0, 0, 1], .blk 1, .code [1, 1, 0, 1, 0, 0, 1, 1], .loop [1, 1, 0, 1, 0], .blk 0, .code [1, 1, 1]]) (t' := [(0, .sl 34 (List.map Rule.av a) f_a), (1, .sl 34 (List.map Rule.av b) f_b), (5, .sc (.int .i64 ((i : Nat) : Int)))]) (h' := []) (by kernel_rfl) ?_
      refine AR.reg hm podestaref04_Same_k0 (by kernel_rfl) ?_
      refine DK.seg hG 2 [0, 1, 5, 17, 18] (t' := [(0, .sl 34 (List.map Rule.av a) f_a), (1, .sl 34 (List.map Rule.av b) f_b), (5, .sc (.int .i64 ((i : Nat) : Int))), (17, .sl 34 (List.map Rule.av a) f_a), (18, .sc (.int .i64 ((i : Nat) : Int)))]) (h' := []) (by kernel_rfl) rfl ?_
      refine DK.op' [0, 1, 5, 19] (t' := [(0, .sl 34 (List.map Rule.av a) f_a), (1, .sl 34 (List.map Rule.av b) f_b), (5, .sc (.int .i64 ((i : Nat) : Int))), (19, .ep [.arr .u64 12 x.Match.Value, .arr .u64 12 x.Match.Care, .sc (.int .i64 x.Prio), .sl 42 (List.map Act.av x.Acts) false, .sc (.int .i64 x.Idle), .sc (.int .i64 x.Hard), .sc (.int .i64 x.Owner), .sc (.int .i64 x.Hits), .sc (.int .i64 x.Quiet), .sc (.int .i64 x.Age)] 0 none)]) (h' := []) (LSpec.index' (r := Rule.av x) (fs := [.arr .u64 12 x.Match.Value, .arr .u64 12 x.Match.Care, .sc (.int .i64 x.Prio), .sl 42 (List.map Act.av x.Acts) false, .sc (.int .i64 x.Idle), .sc (.int .i64 x.Hard), .sc (.int .i64 x.Owner), .sc (.int .i64 x.Hits), .sc (.int .i64 x.Quiet), .sc (.int .i64 x.Age)]) hG (rows := List.map Rule.av a) (j := ((i : Nat) : Int)) (by kernel_rfl) (ixO_map hv_i _) (by kernel_rfl)) (by kernel_rfl) rfl (by kernel_rfl) rfl ?_
      refine DK.seg hG 3 [0, 1, 5, 20, 21, 22] (t' := [(0, .sl 34 (List.map Rule.av a) f_a), (1, .sl 34 (List.map Rule.av b) f_b), (5, .sc (.int .i64 ((i : Nat) : Int))), (20, Rule.av x), (21, .sl 34 (List.map Rule.av b) f_b), (22, .sc (.int .i64 ((i : Nat) : Int)))]) (h' := []) (by kernel_rfl) rfl ?_
      obtain ⟨x1, hv, H⟩ := Option.bind_eq_some_iff.1 H
      refine DK.op' [0, 1, 5, 20, 23] (t' := [(0, .sl 34 (List.map Rule.av a) f_a), (1, .sl 34 (List.map Rule.av b) f_b), (5, .sc (.int .i64 ((i : Nat) : Int))), (20, Rule.av x), (23, .ep [.arr .u64 12 x1.Match.Value, .arr .u64 12 x1.Match.Care, .sc (.int .i64 x1.Prio), .sl 42 (List.map Act.av x1.Acts) false, .sc (.int .i64 x1.Idle), .sc (.int .i64 x1.Hard), .sc (.int .i64 x1.Owner), .sc (.int .i64 x1.Hits), .sc (.int .i64 x1.Quiet), .sc (.int .i64 x1.Age)] 0 none)]) (h' := []) (LSpec.index' (r := Rule.av x1) (fs := [.arr .u64 12 x1.Match.Value, .arr .u64 12 x1.Match.Care, .sc (.int .i64 x1.Prio), .sl 42 (List.map Act.av x1.Acts) false, .sc (.int .i64 x1.Idle), .sc (.int .i64 x1.Hard), .sc (.int .i64 x1.Owner), .sc (.int .i64 x1.Hits), .sc (.int .i64 x1.Quiet), .sc (.int .i64 x1.Age)]) hG (rows := List.map Rule.av b) (j := ((i : Nat) : Int)) (by kernel_rfl) (ixO_map hv _) (by kernel_rfl)) (by kernel_rfl) rfl (by kernel_rfl) rfl ?_
      refine DK.seg hG 1 [0, 1, 5, 20, 24] (t' := [(0, .sl 34 (List.map Rule.av a) f_a), (1, .sl 34 (List.map Rule.av b) f_b), (5, .sc (.int .i64 ((i : Nat) : Int))), (20, Rule.av x), (24, Rule.av x1)]) (h' := []) (by kernel_rfl) rfl ?_
      refine DK.op' [0, 1, 5, 25] (t' := [(0, .sl 34 (List.map Rule.av a) f_a), (1, .sl 34 (List.map Rule.av b) f_b), (5, .sc (.int .i64 ((i : Nat) : Int))), (25, .sc (.bool (podestaref04_Equal x x1)))]) (h' := []) (LSpec.callP' (podestaref04_Equal_calls x x1) (by kernel_rfl)) (by kernel_rfl) rfl (by kernel_rfl) rfl ?_
      refine DK.seg hG 1 [0, 1, 5, 26] (t' := [(0, .sl 34 (List.map Rule.av a) f_a), (1, .sl 34 (List.map Rule.av b) f_b), (5, .sc (.int .i64 ((i : Nat) : Int))), (26, .sc (.bool (!(podestaref04_Equal x x1))))]) (h' := []) (by kernel_rfl) rfl ?_
      refine DK.done (by kernel_rfl) (by kernel_rfl) ?_
      refine AR.cond (.tmp 26) (!(podestaref04_Equal x x1)) (by kernel_rfl) (by kernel_rfl) (fun hb => ?ht10) (fun hb => ?hf10)
      case ht10 =>
        replace H := cond_t hb H
        refine AR.seg hG hm 2 [4] (k' := [.code [1, 1, 0, 1, 0, 0, 1, 0, 0, 1, 0, 1], .blk 1, .code [1, 1, 0, 1, 0, 0, 1, 1], .loop [1, 1, 0, 1, 0], .blk 0, .code [1, 1, 1]]) (t' := [(4, .sc (.bool false))]) (h' := []) (by kernel_rfl) ?_
        obtain rfl := Option.some.inj H
        obtain rfl := Jr _ rfl
        exact AR.ret0 (fn := Try.f23) hG Try.func23 (by kernel_rfl) hc0 (r0 := .sc (.bool false)) (by kernel_rfl) (WkV.refl _)
      case hf10 =>
        replace H := cond_f hb H
        refine AR.seg hG hm 3 [0, 1, 5] (k' := [.loop [1, 1, 0, 1, 0], .blk 0, .code [1, 1, 1]]) (t' := [(0, .sl 34 (List.map Rule.av a) f_a), (1, .sl 34 (List.map Rule.av b) f_b), (5, .sc (.int .i64 (IntKind.i64.wrap (((i : Nat) : Int) + 1))))]) (h' := []) (by kernel_rfl) ?_
        refine AR.keep [0, 1, 5] (t' := [(0, .sl 34 (List.map Rule.av a) f_a), (1, .sl 34 (List.map Rule.av b) f_b), (5, .sc (.int .i64 (IntKind.i64.wrap (((i : Nat) : Int) + 1))))]) (by kernel_rfl) ?_
        refine AR.loop_round ?_
        rw [hw]
        exact ih (i + 1) hd2 H
    case hf9 => exact absurd (hc.symm.trans hb) (by decide)

def podestaref04_Same_raw (a : List Rule) (b : List Rule) : Option (Bool) :=
  (bif ((((List.map Rule.av a).length : Nat) : Int) != (((List.map Rule.av b).length : Nat) : Int)) then
    some false
  else
    loopO (podestaref04_Same_l0s b a 0) fun v =>
    some true)
theorem podestaref04_Same_walk (a : List Rule) (b : List Rule) (f_a : Bool) (f_b : Bool) (r : Bool) (H : podestaref04_Same_raw a b = some r) :
    ACalls Try.prog tab.S 23 [.sl 34 (List.map Rule.av a) f_a, .sl 34 (List.map Rule.av b) f_b] [] (.sc (.bool r)) [] := by
  have hG := tab_ok
  have hm := mixed
  refine ACalls.of_AR (G := tab) podestaref04_Same_F (fn := Try.f23) Try.func23 (by kernel_rfl) (by kernel_rfl) (by kernel_rfl) (Nat.le_of_ble_eq_true (by kernel_rfl)) ?_
  intro c0 hc0
  replace hc0 : c0.m.length = 0 := hc0
  rw [podestaref04_Same_raw] at H
  refine AR.seg hG hm 5 [0, 1, 10] (k' := [.code [1, 0, 1], .code [1, 1]]) (t' := [(0, .sl 34 (List.map Rule.av a) f_a), (1, .sl 34 (List.map Rule.av b) f_b), (10, .sc (.bool ((((List.map Rule.av a).length : Nat) : Int) != (((List.map Rule.av b).length : Nat) : Int))))]) (h' := []) (by kernel_rfl) ?_
  refine AR.cond (.tmp 10) ((((List.map Rule.av a).length : Nat) : Int) != (((List.map Rule.av b).length : Nat) : Int)) (by kernel_rfl) (by kernel_rfl) (fun hb => ?ht1) (fun hb => ?hf1)
  case ht1 =>
    replace H := cond_t hb H
    refine AR.seg hG hm 2 [4] (k' := [.code [1, 0, 1, 0, 1], .code [1, 1]]) (t' := [(4, .sc (.bool false))]) (h' := []) (by kernel_rfl) ?_
    obtain rfl := Option.some.inj H
    exact AR.ret0 (fn := Try.f23) hG Try.func23 (by kernel_rfl) hc0 (r0 := .sc (.bool false)) (by kernel_rfl) (WkV.refl _)
  case hf1 =>
    replace H := cond_f hb H
    refine AR.seg hG hm 5 [0, 1, 5] (k' := [.code [1, 1, 0, 1, 0], .blk 0, .code [1, 1, 1]]) (t' := [(0, .sl 34 (List.map Rule.av a) f_a), (1, .sl 34 (List.map Rule.av b) f_b), (5, .sc (.int .i64 0))]) (h' := []) (by kernel_rfl) ?_
    rcases loopO_some H with ⟨v, hv, H⟩ | hv
    case inr =>
      refine AR.into (by kernel_rfl) ?_
      exact podestaref04_Same_l0_walk a b f_a f_b _ c0 hc0 (.inr _) (fun _ e => by cases e) (fun _ e => (Sum.inr.inj e).symm) a 0 rfl hv
    refine AR.into (by kernel_rfl) ?_
    refine podestaref04_Same_l0_walk a b f_a f_b r c0 hc0 (.inl v) (fun w e => ?_) (fun _ e => by cases e) a 0 rfl hv
    have e := Sum.inl.inj e
    subst e
    refine AR.seg hG hm 2 [4] (k' := [.code [1, 1, 1, 1]]) (t' := [(4, .sc (.bool true))]) (h' := []) (by kernel_rfl) ?_
    obtain rfl := Option.some.inj H
    exact AR.ret0 (fn := Try.f23) hG Try.func23 (by kernel_rfl) hc0 (r0 := .sc (.bool true)) (by kernel_rfl) (WkV.refl _)

theorem podestaref04_Same_ok (a b : List Rule) (f_a f_b : Bool) : ACalls Try.prog tab.S 23 [.sl 34 (List.map Rule.av a) f_a, .sl 34 (List.map Rule.av b) f_b] [] (.sc (.bool (zipAll podestaref04_Equal a b))) [] := by
  refine podestaref04_Same_walk a b f_a f_b _ ?_
  rw [podestaref04_Same_raw, len_bne]
  by_cases h : a.length = b.length
  · simp only [h, decide_true, Bool.not_true, cond_false]
    rw [cmp_loop (v := false) (podestaref04_Same_l0s b) b podestaref04_Equal (fun _ => rfl) (fun x r i => by rw [podestaref04_Same_l0s]) a 0 (by omega), List.drop_zero]
    cases zipAll podestaref04_Equal a b <;> rfl
  · rw [zipAll_ne _ h]
    simp only [h, decide_false, Bool.not_false, cond_true]
theorem rule_Equal_eq (a b : Rule) : rule_Equal a b = (a == b) := by
  obtain ⟨⟨v, c⟩, p, ac, i1, h1, o1, h2, q1, g1⟩ := a
  obtain ⟨⟨v', c'⟩, p', ac', i1', h1', o1', h2', q1', g1'⟩ := b
  rw [rule_Equal, act_Same, rule_Key, Bool.eq_iff_iff]
  simp only [Bool.and_eq_true, beq_iff_eq, Rule.mk.injEq, Cube.mk.injEq]
  constructor
  · rintro ⟨⟨⟨⟨⟨⟨⟨a1, ⟨a2, a3⟩, a4⟩, a5⟩, a6⟩, a7⟩, a8⟩, a9⟩, a10⟩
    exact ⟨⟨a2, a3⟩, a4, a1, a5, a6, a7, a8, a9, a10⟩
  · rintro ⟨⟨a2, a3⟩, a4, a1, a5, a6, a7, a8, a9, a10⟩
    exact ⟨⟨⟨⟨⟨⟨⟨a1, ⟨a2, a3⟩, a4⟩, a5⟩, a6⟩, a7⟩, a8⟩, a9⟩, a10⟩
theorem ref_Equal_eq (a b : Rule) : podestaref04_Equal a b = (a == b) := by
  obtain ⟨⟨v, c⟩, p, ac, i1, h1, o1, h2, q1, g1⟩ := a
  obtain ⟨⟨v', c'⟩, p', ac', i1', h1', o1', h2', q1', g1'⟩ := b
  rw [podestaref04_Equal, podestaref04_Key, Bool.eq_iff_iff]
  simp only [Bool.and_eq_true, beq_iff_eq, Rule.mk.injEq, Cube.mk.injEq]
  constructor
  · rintro ⟨⟨⟨⟨⟨⟨⟨⟨⟨a2, a3⟩, a4⟩, a1⟩, a5⟩, a6⟩, a7⟩, a8⟩, a9⟩, a10⟩
    exact ⟨⟨a2, a3⟩, a4, a1, a5, a6, a7, a8, a9, a10⟩
  · rintro ⟨⟨a2, a3⟩, a4, a1, a5, a6, a7, a8, a9, a10⟩
    exact ⟨⟨⟨⟨⟨⟨⟨⟨⟨a2, a3⟩, a4⟩, a1⟩, a5⟩, a6⟩, a7⟩, a8⟩, a9⟩, a10⟩
theorem ref_Same_eq (a b : List Rule) : zipAll podestaref04_Equal a b = (a == b) := by
  rw [← zipAll_beq]
  exact congrArg (fun f => zipAll f a b) (funext fun x => funext fun y => ref_Equal_eq x y)

/-! ### rule.Same: function 22 -/
noncomputable def rule_Same_F : Go.Sh.Fn := ⟨22, bodyOf Try.f22, 8⟩
def rule_Same_k0 : List Kd := [.pure, .pure, .read, .pure]
def rule_Same (a : List Rule) (b : List Rule) : Bool :=
  (zipAll rule_Equal a b)
theorem rule_Same_walk (a : List Rule) (b : List Rule) (f_a : Bool) (f_b : Bool) (r : Bool) (H : rule_Same a b = r) :
    ACalls Try.prog tab.S 22 [.sl 34 (List.map Rule.av a) f_a, .sl 34 (List.map Rule.av b) f_b] [] (.sc (.bool r)) [] := by
  have hG := tab_ok
  have hm := mixed
  refine ACalls.of_AR (G := tab) rule_Same_F (fn := Try.f22) Try.func22 (by kernel_rfl) (by kernel_rfl) (by kernel_rfl) (Nat.le_of_ble_eq_true (by kernel_rfl)) ?_
  intro c0 hc0
  replace hc0 : c0.m.length = 0 := hc0
  rw [rule_Same] at H
  refine AR.seg hG hm 3 [0, 1] (k' := [.code [1, 0], .code [1, 1]]) (t' := [(0, .sl 34 (List.map Rule.av a) f_a), (1, .sl 34 (List.map Rule.av b) f_b)]) (h' := []) (by kernel_rfl) ?_
  refine AR.reg hm rule_Same_k0 (by kernel_rfl) ?_
  refine DK.seg hG 2 [5, 6] (t' := [(5, .sl 34 (List.map Rule.av a) f_a), (6, .sl 34 (List.map Rule.av b) f_b)]) (h' := []) (by kernel_rfl) rfl ?_
  refine DK.op' [7] (t' := [(7, .sc (.bool (zipAll rule_Equal a b)))]) (h' := []) (LSpec.callF' (caps := []) (slices_EqualFunc__api_Rule_ok a b 46 [] rule_Equal rfl rfl (fun y0 y1 => rule_Equal_calls y0 y1) f_a f_b) (by kernel_rfl) (.same rfl (.same rfl (.fn (caps := []) (by kernel_rfl) .nil))) (by kernel_rfl) rfl rfl) (by kernel_rfl) rfl (by kernel_rfl) rfl ?_
  refine DK.seg hG 1 [4] (t' := [(4, .sc (.bool (zipAll rule_Equal a b)))]) (h' := []) (by kernel_rfl) rfl ?_
  refine DK.done (by kernel_rfl) (by kernel_rfl) ?_
  subst H
  exact AR.ret0 (fn := Try.f22) hG Try.func22 (by kernel_rfl) hc0 (r0 := .sc (.bool (zipAll rule_Equal a b))) (by kernel_rfl) (WkV.refl _)
theorem rule_Same_calls (a : List Rule) (b : List Rule) (f_a : Bool) (f_b : Bool) : ACalls Try.prog tab.S 22 [.sl 34 (List.map Rule.av a) f_a, .sl 34 (List.map Rule.av b) f_b] [] (.sc (.bool (rule_Same a b))) [] := rule_Same_walk a b f_a f_b _ rfl

theorem rule_Same_eq (a b : List Rule) : rule_Same a b = (a == b) := by
  rw [rule_Same, ← zipAll_beq]
  exact congrArg (fun f => zipAll f a b) (funext fun x => funext fun y => rule_Equal_eq x y)

end Go.Proofs.Ytadolbhmdimbkaa

set_option linter.unusedVariables false
set_option linter.unusedSimpArgs false
set_option maxRecDepth 100000
set_option maxHeartbeats 4000000
namespace Go.Proofs.Ytadolbhmdimbkaa
open Go.Sh
/-! ### podestalaw05.RuleSame: function 6 -/
noncomputable def podestalaw05_RuleSame_F : Go.Sh.Fn := ⟨6, bodyOf Try.f6, 38⟩
def podestalaw05_RuleSame_k1 : List Kd := [.pure, .pure]
def podestalaw05_RuleSame_k2 : List Kd := [.pure, .pure, .pure, .pure, .pure, .pure, .pure, .pure, .pure, .pure, .pure, .pure, .pure, .pure, .pure, .pure, .pure, .pure, .pure, .pure, .pure, .pure, .pure, .pure, .pure]
def podestalaw05_RuleSame_k0 : List Kd := [.pure, .pure, .pure, .pure, .pure, .pure, .pure, .pure]
def podestalaw05_RuleSame (a : List Rule) (b : List Rule) : Bool :=
  (bif ((decide ((((List.map Rule.av a).length : Nat) : Int) > 40)) || (decide ((((List.map Rule.av b).length : Nat) : Int) > 40))) then
    true
  else
    ((((rule_Same a b) == (zipAll podestaref04_Equal a b)) && (rule_Same a a)) && ((rule_Same a b) == (rule_Same b a))))
theorem podestalaw05_RuleSame_walk (a : List Rule) (b : List Rule) (f_a : Bool) (f_b : Bool) (r : Bool) (H : podestalaw05_RuleSame a b = r) :
    ACalls Try.prog tab.S 6 [.sl 34 (List.map Rule.av a) f_a, .sl 34 (List.map Rule.av b) f_b] [] (.sc (.bool r)) [] := by
  have hG := tab_ok
  have hm := mixed
  refine ACalls.of_AR (G := tab) podestalaw05_RuleSame_F (fn := Try.f6) Try.func6 (by kernel_rfl) (by kernel_rfl) (by kernel_rfl) (Nat.le_of_ble_eq_true (by kernel_rfl)) ?_
  intro c0 hc0
  replace hc0 : c0.m.length = 0 := hc0
  rw [podestalaw05_RuleSame] at H
  refine AR.seg hG hm 4 [0, 1] (k' := [.code [1, 0, 0], .code [1, 0, 1], .code [1, 1]]) (t' := [(0, .sl 34 (List.map Rule.av a) f_a), (1, .sl 34 (List.map Rule.av b) f_b)]) (h' := []) (by kernel_rfl) ?_
  refine AR.reg hm podestalaw05_RuleSame_k0 (by kernel_rfl) ?_
  refine DK.seg hG 4 [0, 1, 8] (t' := [(0, .sl 34 (List.map Rule.av a) f_a), (1, .sl 34 (List.map Rule.av b) f_b), (8, .sc (.bool (decide ((((List.map Rule.av a).length : Nat) : Int) > 40))))]) (h' := []) (by kernel_rfl) rfl ?_
  refine DK.mux 8 (decide ((((List.map Rule.av a).length : Nat) : Int) > 40)) (j := 8) (h' := []) (by kernel_rfl) (fun z => [(0, .sl 34 (List.map Rule.av a) f_a), (1, .sl 34 (List.map Rule.av b) f_b), (12, .sc (.bool (z || (decide ((((List.map Rule.av b).length : Nat) : Int) > 40)))))]) ?J1 (fun hb J => ?ht1) (fun hb J => ?hf1)
  case ht1 =>
    exact DK.seg hG 4 [0, 1, 12] (by kernel_rfl) rfl J
  case hf1 =>
    exact DK.seg hG 4 [0, 1, 12] (by kernel_rfl) rfl J
  refine DK.done (by kernel_rfl) (by kernel_rfl) ?_
  refine AR.cond (.tmp 12) ((decide ((((List.map Rule.av a).length : Nat) : Int) > 40)) || (decide ((((List.map Rule.av b).length : Nat) : Int) > 40))) (by kernel_rfl) (by kernel_rfl) (fun hb => ?ht2) (fun hb => ?hf2)
  case ht2 =>
    replace H := cond_t hb H
    refine AR.seg hG hm 1 [] (k' := [.code [1, 0, 1, 0, 0], .code [1, 0, 1, 0, 1], .code [1, 1]]) (t' := []) (h' := []) (by kernel_rfl) ?_
    refine AR.reg hm podestalaw05_RuleSame_k1 (by kernel_rfl) ?_
    refine DK.op' [13] (t' := [(13, .sc (.bool true))]) (h' := []) (LSpec.callP' (podestalaw05_answers_ok) (by kernel_rfl)) (by kernel_rfl) rfl (by kernel_rfl) rfl ?_
    refine DK.seg hG 1 [4] (t' := [(4, .sc (.bool true))]) (h' := []) (by kernel_rfl) rfl ?_
    refine DK.done (by kernel_rfl) (by kernel_rfl) ?_
    subst H
    exact AR.ret0 (fn := Try.f6) hG Try.func6 (by kernel_rfl) hc0 (r0 := .sc (.bool true)) (by kernel_rfl) (WkV.refl _)
  case hf2 =>
    replace H := cond_f hb H
    refine AR.seg hG hm 2 [0, 1] (k' := [.code [1, 1, 0], .code [1, 1, 1]]) (t' := [(0, .sl 34 (List.map Rule.av a) f_a), (1, .sl 34 (List.map Rule.av b) f_b)]) (h' := []) (by kernel_rfl) ?_
    refine AR.reg hm podestalaw05_RuleSame_k2 (by kernel_rfl) ?_
    refine DK.op' [0, 1, 14] (t' := [(0, .sl 34 (List.map Rule.av a) f_a), (1, .sl 34 (List.map Rule.av b) f_b), (14, .sc (.bool true))]) (h' := []) (LSpec.callP' (podestalaw05_answers_ok) (by kernel_rfl)) (by kernel_rfl) rfl (by kernel_rfl) rfl ?_
    refine DK.seg hG 3 [0, 1, 15, 16, 17] (t' := [(0, .sl 34 (List.map Rule.av a) f_a), (1, .sl 34 (List.map Rule.av b) f_b), (15, .sc (.bool true)), (16, .sl 34 (List.map Rule.av a) f_a), (17, .sl 34 (List.map Rule.av b) f_b)]) (h' := []) (by kernel_rfl) rfl ?_
    refine DK.op' [0, 1, 15, 18] (t' := [(0, .sl 34 (List.map Rule.av a) f_a), (1, .sl 34 (List.map Rule.av b) f_b), (15, .sc (.bool true)), (18, .sc (.bool (rule_Same a b)))]) (h' := []) (LSpec.callP' (rule_Same_calls a b f_a f_b) (by kernel_rfl)) (by kernel_rfl) rfl (by kernel_rfl) rfl ?_
    refine DK.seg hG 2 [0, 1, 15, 18, 19, 20] (t' := [(0, .sl 34 (List.map Rule.av a) f_a), (1, .sl 34 (List.map Rule.av b) f_b), (15, .sc (.bool true)), (18, .sc (.bool (rule_Same a b))), (19, .sl 34 (List.map Rule.av a) f_a), (20, .sl 34 (List.map Rule.av b) f_b)]) (h' := []) (by kernel_rfl) rfl ?_
    refine DK.op' [0, 1, 15, 18, 21] (t' := [(0, .sl 34 (List.map Rule.av a) f_a), (1, .sl 34 (List.map Rule.av b) f_b), (15, .sc (.bool true)), (18, .sc (.bool (rule_Same a b))), (21, .sc (.bool (zipAll podestaref04_Equal a b)))]) (h' := []) (LSpec.callP' (podestaref04_Same_ok a b f_a f_b) (by kernel_rfl)) (by kernel_rfl) rfl (by kernel_rfl) rfl ?_
    refine DK.seg hG 3 [0, 1, 24] (t' := [(0, .sl 34 (List.map Rule.av a) f_a), (1, .sl 34 (List.map Rule.av b) f_b), (24, .sc (.bool ((rule_Same a b) == (zipAll podestaref04_Equal a b))))]) (h' := []) (by kernel_rfl) rfl ?_
    refine DK.mux 24 ((rule_Same a b) == (zipAll podestaref04_Equal a b)) (j := 15) (h' := []) (by kernel_rfl) (fun z => [(0, .sl 34 (List.map Rule.av a) f_a), (1, .sl 34 (List.map Rule.av b) f_b), (28, .sc (.bool (z && (rule_Same a a))))]) ?J3 (fun hb J => ?ht3) (fun hb J => ?hf3)
    case ht3 =>
      refine DK.seg hG 2 [0, 1, 24, 25, 26] (t' := [(0, .sl 34 (List.map Rule.av a) f_a), (1, .sl 34 (List.map Rule.av b) f_b), (24, .sc (.bool true)), (25, .sl 34 (List.map Rule.av a) f_a), (26, .sl 34 (List.map Rule.av a) f_a)]) (h' := []) (by kernel_rfl) rfl ?_
      refine DK.op' [0, 1, 24, 27] (t' := [(0, .sl 34 (List.map Rule.av a) f_a), (1, .sl 34 (List.map Rule.av b) f_b), (24, .sc (.bool true)), (27, .sc (.bool (rule_Same a a)))]) (h' := []) (LSpec.callP' (rule_Same_calls a a f_a f_a) (by kernel_rfl)) (by kernel_rfl) rfl (by kernel_rfl) rfl ?_
      exact DK.seg hG 1 [0, 1, 28] (by kernel_rfl) rfl J
    case hf3 =>
      exact DK.seg hG 4 [0, 1, 28] (by kernel_rfl) rfl J
    refine DK.seg hG 1 [0, 1, 29] (t' := [(0, .sl 34 (List.map Rule.av a) f_a), (1, .sl 34 (List.map Rule.av b) f_b), (29, .sc (.bool (((rule_Same a b) == (zipAll podestaref04_Equal a b)) && (rule_Same a a))))]) (h' := []) (by kernel_rfl) rfl ?_
    refine DK.mux 29 (((rule_Same a b) == (zipAll podestaref04_Equal a b)) && (rule_Same a a)) (j := 24) (h' := []) (by kernel_rfl) (fun z => [(37, .sc (.bool (z && ((rule_Same a b) == (rule_Same b a)))))]) ?J4 (fun hb J => ?ht4) (fun hb J => ?hf4)
    case ht4 =>
      refine DK.seg hG 2 [0, 1, 29, 30, 31] (t' := [(0, .sl 34 (List.map Rule.av a) f_a), (1, .sl 34 (List.map Rule.av b) f_b), (29, .sc (.bool true)), (30, .sl 34 (List.map Rule.av a) f_a), (31, .sl 34 (List.map Rule.av b) f_b)]) (h' := []) (by kernel_rfl) rfl ?_
      refine DK.op' [0, 1, 29, 32] (t' := [(0, .sl 34 (List.map Rule.av a) f_a), (1, .sl 34 (List.map Rule.av b) f_b), (29, .sc (.bool true)), (32, .sc (.bool (rule_Same a b)))]) (h' := []) (LSpec.callP' (rule_Same_calls a b f_a f_b) (by kernel_rfl)) (by kernel_rfl) rfl (by kernel_rfl) rfl ?_
      refine DK.seg hG 2 [29, 32, 33, 34] (t' := [(29, .sc (.bool true)), (32, .sc (.bool (rule_Same a b))), (33, .sl 34 (List.map Rule.av b) f_b), (34, .sl 34 (List.map Rule.av a) f_a)]) (h' := []) (by kernel_rfl) rfl ?_
      refine DK.op' [29, 32, 35] (t' := [(29, .sc (.bool true)), (32, .sc (.bool (rule_Same a b))), (35, .sc (.bool (rule_Same b a)))]) (h' := []) (LSpec.callP' (rule_Same_calls b a f_b f_a) (by kernel_rfl)) (by kernel_rfl) rfl (by kernel_rfl) rfl ?_
      exact DK.seg hG 2 [37] (by kernel_rfl) rfl J
    case hf4 =>
      exact DK.seg hG 8 [37] (by kernel_rfl) rfl J
    refine DK.seg hG 1 [4] (t' := [(4, .sc (.bool ((((rule_Same a b) == (zipAll podestaref04_Equal a b)) && (rule_Same a a)) && ((rule_Same a b) == (rule_Same b a)))))]) (h' := []) (by kernel_rfl) rfl ?_
    refine DK.done (by kernel_rfl) (by kernel_rfl) ?_
    subst H
    exact AR.ret0 (fn := Try.f6) hG Try.func6 (by kernel_rfl) hc0 (r0 := .sc (.bool ((((rule_Same a b) == (zipAll podestaref04_Equal a b)) && (rule_Same a a)) && ((rule_Same a b) == (rule_Same b a))))) (by kernel_rfl) (WkV.refl _)
theorem podestalaw05_RuleSame_calls (a : List Rule) (b : List Rule) (f_a : Bool) (f_b : Bool) : ACalls Try.prog tab.S 6 [.sl 34 (List.map Rule.av a) f_a, .sl 34 (List.map Rule.av b) f_b] [] (.sc (.bool (podestalaw05_RuleSame a b))) [] := podestalaw05_RuleSame_walk a b f_a f_b _ rfl

theorem RuleSame_true (a b : List Rule) (_ : ∀ y ∈ a, Rule.wf y) (_ : ∀ y ∈ b, Rule.wf y) : podestalaw05_RuleSame a b = true := by
  rw [podestalaw05_RuleSame]
  simp only [rule_Same_eq, ref_Same_eq]
  have h : (a == b) = (b == a) := by rw [Bool.eq_iff_iff, beq_iff_eq, beq_iff_eq]; exact eq_comm
  simp only [h, beq_self_eq_true, Bool.and_self, Bool.true_and]
  cases decide ((((List.map Rule.av a).length : Nat) : Int) > 40) <;> cases decide ((((List.map Rule.av b).length : Nat) : Int) > 40) <;> rfl

end Go.Proofs.Ytadolbhmdimbkaa

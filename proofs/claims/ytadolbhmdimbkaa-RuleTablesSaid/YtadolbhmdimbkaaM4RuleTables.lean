import Derived.Test.YtadolbhmdimbkaaM3RuleTables
set_option linter.unusedVariables false
set_option linter.unusedSimpArgs false
set_option maxRecDepth 100000
set_option maxHeartbeats 4000000
namespace Go.Proofs.Ytadolbhmdimbkaa
open Go.Sh
theorem Act.beq_eq (x y : Act) : ((x.Kind == y.Kind) && ((x.Port == y.Port) && ((x.Field == y.Field) && (x.Value == y.Value)))) = (x == y) := by
  rw [Bool.eq_iff_iff]
  simp only [Bool.and_eq_true, beq_iff_eq]
  cases x; cases y
  simp

theorem zipAll_ne {α β : Type} (f : α → β → Bool) {a : List α} {b : List β} (h : ¬ a.length = b.length) : zipAll f a b = false := by
  rw [Bool.eq_false_iff]
  exact fun q => h (zipAll_len q)

/-! ### slices.Equal: function 74 -/
noncomputable def slices_Equal__api_Act_F : Go.Sh.Fn := ⟨74, bodyOf Try.f74, 26⟩
def slices_Equal__api_Act_k0 : List Kd := [.pure, .pure, .pure, .pure, .pure, .pure, .pure, .pure, .pure]
def slices_Equal__api_Act_l0s (s2 : List Act) : List Act → Nat → Option (Sum (Unit) (Bool))
  | [], t13 =>
    some (.inl ())
  | x :: rest, t13 =>
    (ixO s2 ((t13 : Nat) : Int)).bind fun x1 =>
    (bif (!((x.Kind == x1.Kind) && ((x.Port == x1.Port) && ((x.Field == x1.Field) && (x.Value == x1.Value))))) then
      some (.inr false)
    else
      slices_Equal__api_Act_l0s s2 rest (t13 + 1) )
theorem slices_Equal__api_Act_l0_walk (s1 : List Act) (s2 : List Act) (f_s1 : Bool) (f_s2 : Bool) (r : Bool) (c0 : Ctx) (hc0 : c0.m.length = 0) (res : Sum (Unit) (Bool)) (J : ∀ w : Unit, res = .inl w → AR Try.prog tab slices_Equal__api_Act_F c0 (Rp tab.S c0 (.sc (.bool r)) []) [.code [1, 1, 1]] [] []) (Jr : ∀ w, res = .inr w → w = r) :
    ∀ (rest : List Act) (t13 : Nat) (hd : s1.drop t13 = rest) (H : slices_Equal__api_Act_l0s s2 rest t13 = some res), AR Try.prog tab slices_Equal__api_Act_F c0 (Rp tab.S c0 (.sc (.bool r)) []) [.code [1, 1, 0, 1, 0, 0], .loop [1, 1, 0, 1, 0], .blk 0, .code [1, 1, 1]] [(0, .sl 42 (List.map Act.av s1) f_s1), (1, .sl 42 (List.map Act.av s2) f_s2), (12, .sc (.int .i64 (((List.map Act.av s1).length : Nat) : Int))), (13, .sc (.int .i64 ((t13 : Nat) : Int)))] [] := by
  have hG := tab_ok
  have hm := mixed
  intro rest
  induction rest with
  | nil =>
    intro t13 hd  H
    rw [slices_Equal__api_Act_l0s] at H
    refine AR.facts 0 rfl fun hf => ?_
    have hlen : s1.length ≤ 9223372036854775807 := by have hq := len_ok hf.2.1; rw [List.length_map] at hq; exact hq
    have hge : s1.length ≤ t13 := List.drop_eq_nil_iff.1 hd
    have hc : (decide (((t13 : Nat) : Int) < (((List.map Act.av s1).length : Nat) : Int))) = false := by rw [List.length_map]; exact decide_eq_false (by omega)
    refine AR.seg hG hm 3 [0, 1, 12, 13, 14] (k' := [.code [1, 1, 0, 1, 0, 0, 1, 0], .code [1, 1, 0, 1, 0, 0, 1, 1], .loop [1, 1, 0, 1, 0], .blk 0, .code [1, 1, 1]]) (t' := [(0, .sl 42 (List.map Act.av s1) f_s1), (1, .sl 42 (List.map Act.av s2) f_s2), (12, .sc (.int .i64 (((List.map Act.av s1).length : Nat) : Int))), (13, .sc (.int .i64 ((t13 : Nat) : Int))), (14, .sc (.bool (decide (((t13 : Nat) : Int) < (((List.map Act.av s1).length : Nat) : Int)))))]) (h' := []) (by kernel_rfl) ?_
    refine AR.cond (.tmp 14) (decide (((t13 : Nat) : Int) < (((List.map Act.av s1).length : Nat) : Int))) (by kernel_rfl) (by kernel_rfl) (fun hb => ?ht8) (fun hb => ?hf8)
    case ht8 => exact absurd (hb.symm.trans hc) (by decide)
    case hf8 =>
      refine AR.seg hG hm 1 [] (k' := [.code [1, 1, 1]]) (t' := []) (h' := []) (by kernel_rfl) ?_
      refine AR.keep [] (t' := []) (by kernel_rfl) ?_
      exact J () (Option.some.inj H).symm
  | cons x rest ih =>
    intro t13 hd  H
    rw [slices_Equal__api_Act_l0s] at H
    refine AR.facts 0 rfl fun hf => ?_
    have hlen : s1.length ≤ 9223372036854775807 := by have hq := len_ok hf.2.1; rw [List.length_map] at hq; exact hq
    obtain ⟨hlt, hv_t13, hd2⟩ := drop_cons hd
    have hc : (decide (((t13 : Nat) : Int) < (((List.map Act.av s1).length : Nat) : Int))) = true := by rw [List.length_map]; exact decide_eq_true (by omega)
    have hw : IntKind.i64.wrap (((t13 : Nat) : Int) + 1) = ((t13 + 1 : Nat) : Int) := wrapI_succ (by omega)
    refine AR.seg hG hm 3 [0, 1, 12, 13, 14] (k' := [.code [1, 1, 0, 1, 0, 0, 1, 0], .code [1, 1, 0, 1, 0, 0, 1, 1], .loop [1, 1, 0, 1, 0], .blk 0, .code [1, 1, 1]]) (t' := [(0, .sl 42 (List.map Act.av s1) f_s1), (1, .sl 42 (List.map Act.av s2) f_s2), (12, .sc (.int .i64 (((List.map Act.av s1).length : Nat) : Int))), (13, .sc (.int .i64 ((t13 : Nat) : Int))), (14, .sc (.bool (decide (((t13 : Nat) : Int) < (((List.map Act.av s1).length : Nat) : Int)))))]) (h' := []) (by kernel_rfl) ?_
    refine AR.cond (.tmp 14) (decide (((t13 : Nat) : Int) < (((List.map Act.av s1).length : Nat) : Int))) (by kernel_rfl) (by kernel_rfl) (fun hb => ?ht9) (fun hb => ?hf9)
    case ht9 =>
      refine AR.seg hG hm 6 [0, 1, 5, 12, 13] (k' := [.code [1, 1, 0, 1, 0, 0, 1, 1, 0, 0, 1, 0], .code [1, 1, 0, 1, 0, 0, 1, 1, 0, 0, 1, 1], .blk 1, .code [1, 1, 0, 1, 0, 0, 1, 1, 1], .loop [1, 1, 0, 1, 0], .blk 0, .code [1, 1, 1]]) (t' := [(0, .sl 42 (List.map Act.av s1) f_s1), (1, .sl 42 (List.map Act.av s2) f_s2), (5, .sc (.int .i64 ((t13 : Nat) : Int))), (12, .sc (.int .i64 (((List.map Act.av s1).length : Nat) : Int))), (13, .sc (.int .i64 ((t13 : Nat) : Int)))]) (h' := []) (by kernel_rfl) ?_
      refine AR.reg hm slices_Equal__api_Act_k0 (by kernel_rfl) ?_
      refine DK.seg hG 2 [0, 1, 5, 12, 13, 16, 17] (t' := [(0, .sl 42 (List.map Act.av s1) f_s1), (1, .sl 42 (List.map Act.av s2) f_s2), (5, .sc (.int .i64 ((t13 : Nat) : Int))), (12, .sc (.int .i64 (((List.map Act.av s1).length : Nat) : Int))), (13, .sc (.int .i64 ((t13 : Nat) : Int))), (16, .sl 42 (List.map Act.av s1) f_s1), (17, .sc (.int .i64 ((t13 : Nat) : Int)))]) (h' := []) (by kernel_rfl) rfl ?_
      refine DK.op' [0, 1, 5, 12, 13, 18] (t' := [(0, .sl 42 (List.map Act.av s1) f_s1), (1, .sl 42 (List.map Act.av s2) f_s2), (5, .sc (.int .i64 ((t13 : Nat) : Int))), (12, .sc (.int .i64 (((List.map Act.av s1).length : Nat) : Int))), (13, .sc (.int .i64 ((t13 : Nat) : Int))), (18, .ep [.sc (.int .i64 x.Kind), .sc (.int .i64 x.Port), .sc (.int .i64 x.Field), .sc (.int .u64 x.Value)] 0 none)]) (h' := []) (LSpec.index' (r := Act.av x) (fs := [.sc (.int .i64 x.Kind), .sc (.int .i64 x.Port), .sc (.int .i64 x.Field), .sc (.int .u64 x.Value)]) hG (rows := List.map Act.av s1) (j := ((t13 : Nat) : Int)) (by kernel_rfl) (ixO_map hv_t13 _) (by kernel_rfl)) (by kernel_rfl) rfl (by kernel_rfl) rfl ?_
      refine DK.seg hG 3 [0, 1, 12, 13, 19, 20, 21] (t' := [(0, .sl 42 (List.map Act.av s1) f_s1), (1, .sl 42 (List.map Act.av s2) f_s2), (12, .sc (.int .i64 (((List.map Act.av s1).length : Nat) : Int))), (13, .sc (.int .i64 ((t13 : Nat) : Int))), (19, Act.av x), (20, .sl 42 (List.map Act.av s2) f_s2), (21, .sc (.int .i64 ((t13 : Nat) : Int)))]) (h' := []) (by kernel_rfl) rfl ?_
      obtain ⟨x1, hv, H⟩ := Option.bind_eq_some_iff.1 H
      refine DK.op' [0, 1, 12, 13, 19, 22] (t' := [(0, .sl 42 (List.map Act.av s1) f_s1), (1, .sl 42 (List.map Act.av s2) f_s2), (12, .sc (.int .i64 (((List.map Act.av s1).length : Nat) : Int))), (13, .sc (.int .i64 ((t13 : Nat) : Int))), (19, Act.av x), (22, .ep [.sc (.int .i64 x1.Kind), .sc (.int .i64 x1.Port), .sc (.int .i64 x1.Field), .sc (.int .u64 x1.Value)] 0 none)]) (h' := []) (LSpec.index' (r := Act.av x1) (fs := [.sc (.int .i64 x1.Kind), .sc (.int .i64 x1.Port), .sc (.int .i64 x1.Field), .sc (.int .u64 x1.Value)]) hG (rows := List.map Act.av s2) (j := ((t13 : Nat) : Int)) (by kernel_rfl) (ixO_map hv _) (by kernel_rfl)) (by kernel_rfl) rfl (by kernel_rfl) rfl ?_
      refine DK.seg hG 1 [0, 1, 12, 13, 19, 23] (t' := [(0, .sl 42 (List.map Act.av s1) f_s1), (1, .sl 42 (List.map Act.av s2) f_s2), (12, .sc (.int .i64 (((List.map Act.av s1).length : Nat) : Int))), (13, .sc (.int .i64 ((t13 : Nat) : Int))), (19, Act.av x), (23, Act.av x1)]) (h' := []) (by kernel_rfl) rfl ?_
      refine DK.op' [0, 1, 12, 13, 24] (t' := [(0, .sl 42 (List.map Act.av s1) f_s1), (1, .sl 42 (List.map Act.av s2) f_s2), (12, .sc (.int .i64 (((List.map Act.av s1).length : Nat) : Int))), (13, .sc (.int .i64 ((t13 : Nat) : Int))), (24, .sc (.bool (!((x.Kind == x1.Kind) && ((x.Port == x1.Port) && ((x.Field == x1.Field) && (x.Value == x1.Value)))))))]) (h' := []) (LSpec.eq' 9 (r := (!((x.Kind == x1.Kind) && ((x.Port == x1.Port) && ((x.Field == x1.Field) && (x.Value == x1.Value)))))) (by kernel_rfl)) (by kernel_rfl) rfl (by kernel_rfl) rfl ?_
      refine DK.done (by kernel_rfl) (by kernel_rfl) ?_
      refine AR.cond (.tmp 24) (!((x.Kind == x1.Kind) && ((x.Port == x1.Port) && ((x.Field == x1.Field) && (x.Value == x1.Value))))) (by kernel_rfl) (by kernel_rfl) (fun hb => ?ht10) (fun hb => ?hf10)
      case ht10 =>
        replace H := cond_t hb H
        refine AR.seg hG hm 2 [4] (k' := [.code [1, 1, 0, 1, 0, 0, 1, 1, 0, 0, 1, 1, 0, 1], .blk 1, .code [1, 1, 0, 1, 0, 0, 1, 1, 1], .loop [1, 1, 0, 1, 0], .blk 0, .code [1, 1, 1]]) (t' := [(4, .sc (.bool false))]) (h' := []) (by kernel_rfl) ?_
        obtain rfl := Option.some.inj H
        obtain rfl := Jr _ rfl
        exact AR.ret0 (fn := Try.f74) hG Try.func74 (by kernel_rfl) hc0 (r0 := .sc (.bool false)) (by kernel_rfl) (WkV.refl _)
      case hf10 =>
        replace H := cond_f hb H
        refine AR.seg hG hm 3 [0, 1, 12, 13] (k' := [.loop [1, 1, 0, 1, 0], .blk 0, .code [1, 1, 1]]) (t' := [(0, .sl 42 (List.map Act.av s1) f_s1), (1, .sl 42 (List.map Act.av s2) f_s2), (12, .sc (.int .i64 (((List.map Act.av s1).length : Nat) : Int))), (13, .sc (.int .i64 (IntKind.i64.wrap (((t13 : Nat) : Int) + 1))))]) (h' := []) (by kernel_rfl) ?_
        refine AR.keep [0, 1, 12, 13] (t' := [(0, .sl 42 (List.map Act.av s1) f_s1), (1, .sl 42 (List.map Act.av s2) f_s2), (12, .sc (.int .i64 (((List.map Act.av s1).length : Nat) : Int))), (13, .sc (.int .i64 (IntKind.i64.wrap (((t13 : Nat) : Int) + 1))))]) (by kernel_rfl) ?_
        refine AR.loop_round ?_
        rw [hw]
        exact ih (t13 + 1) hd2 H
    case hf9 => exact absurd (hc.symm.trans hb) (by decide)

def slices_Equal__api_Act_raw (s1 : List Act) (s2 : List Act) : Option (Bool) :=
  (bif ((((List.map Act.av s1).length : Nat) : Int) != (((List.map Act.av s2).length : Nat) : Int)) then
    some false
  else
    loopO (slices_Equal__api_Act_l0s s2 s1 0) fun v =>
    some true)
theorem slices_Equal__api_Act_walk (s1 : List Act) (s2 : List Act) (f_s1 : Bool) (f_s2 : Bool) (r : Bool) (H : slices_Equal__api_Act_raw s1 s2 = some r) :
    ACalls Try.prog tab.S 74 [.sl 42 (List.map Act.av s1) f_s1, .sl 42 (List.map Act.av s2) f_s2] [] (.sc (.bool r)) [] := by
  have hG := tab_ok
  have hm := mixed
  refine ACalls.of_AR (G := tab) slices_Equal__api_Act_F (fn := Try.f74) Try.func74 (by kernel_rfl) (by kernel_rfl) (by kernel_rfl) (Nat.le_of_ble_eq_true (by kernel_rfl)) ?_
  intro c0 hc0
  replace hc0 : c0.m.length = 0 := hc0
  rw [slices_Equal__api_Act_raw] at H
  refine AR.seg hG hm 5 [0, 1, 10] (k' := [.code [1, 0, 1], .code [1, 1]]) (t' := [(0, .sl 42 (List.map Act.av s1) f_s1), (1, .sl 42 (List.map Act.av s2) f_s2), (10, .sc (.bool ((((List.map Act.av s1).length : Nat) : Int) != (((List.map Act.av s2).length : Nat) : Int))))]) (h' := []) (by kernel_rfl) ?_
  refine AR.cond (.tmp 10) ((((List.map Act.av s1).length : Nat) : Int) != (((List.map Act.av s2).length : Nat) : Int)) (by kernel_rfl) (by kernel_rfl) (fun hb => ?ht1) (fun hb => ?hf1)
  case ht1 =>
    replace H := cond_t hb H
    refine AR.seg hG hm 2 [4] (k' := [.code [1, 0, 1, 0, 1], .code [1, 1]]) (t' := [(4, .sc (.bool false))]) (h' := []) (by kernel_rfl) ?_
    obtain rfl := Option.some.inj H
    exact AR.ret0 (fn := Try.f74) hG Try.func74 (by kernel_rfl) hc0 (r0 := .sc (.bool false)) (by kernel_rfl) (WkV.refl _)
  case hf1 =>
    replace H := cond_f hb H
    refine AR.seg hG hm 5 [0, 1, 12, 13] (k' := [.code [1, 1, 0, 1, 0], .blk 0, .code [1, 1, 1]]) (t' := [(0, .sl 42 (List.map Act.av s1) f_s1), (1, .sl 42 (List.map Act.av s2) f_s2), (12, .sc (.int .i64 (((List.map Act.av s1).length : Nat) : Int))), (13, .sc (.int .i64 0))]) (h' := []) (by kernel_rfl) ?_
    rcases loopO_some H with ⟨v, hv, H⟩ | hv
    case inr =>
      refine AR.into (by kernel_rfl) ?_
      exact slices_Equal__api_Act_l0_walk s1 s2 f_s1 f_s2 _ c0 hc0 (.inr _) (fun _ e => by cases e) (fun _ e => (Sum.inr.inj e).symm) s1 0 rfl hv
    refine AR.into (by kernel_rfl) ?_
    refine slices_Equal__api_Act_l0_walk s1 s2 f_s1 f_s2 r c0 hc0 (.inl v) (fun w e => ?_) (fun _ e => by cases e) s1 0 rfl hv
    have e := Sum.inl.inj e
    subst e
    refine AR.seg hG hm 2 [4] (k' := [.code [1, 1, 1, 1]]) (t' := [(4, .sc (.bool true))]) (h' := []) (by kernel_rfl) ?_
    obtain rfl := Option.some.inj H
    exact AR.ret0 (fn := Try.f74) hG Try.func74 (by kernel_rfl) hc0 (r0 := .sc (.bool true)) (by kernel_rfl) (WkV.refl _)

theorem slices_Equal__api_Act_ok (a b : List Act) (f_a f_b : Bool) : ACalls Try.prog tab.S 74 [.sl 42 (List.map Act.av a) f_a, .sl 42 (List.map Act.av b) f_b] [] (.sc (.bool (a == b))) [] := by
  refine slices_Equal__api_Act_walk a b f_a f_b _ ?_
  rw [slices_Equal__api_Act_raw, len_bne]
  by_cases h : a.length = b.length
  · simp only [h, decide_true, Bool.not_true, cond_false]
    rw [cmp_loop (v := false) (slices_Equal__api_Act_l0s b) b (fun x y => x == y) (fun _ => rfl) (fun x r i => by rw [slices_Equal__api_Act_l0s]; simp only [Act.beq_eq]) a 0 (by omega), List.drop_zero, zipAll_beq]
    cases a == b <;> rfl
  · have e : (a == b) = false := by
      rw [beq_eq_false_iff_ne]
      intro e
      exact h (by rw [e])
    rw [e]
    simp only [h, decide_false, Bool.not_false, cond_true]

/-! ### act.Same: function 63 -/
noncomputable def act_Same_F : Go.Sh.Fn := ⟨63, bodyOf Try.f63, 8⟩
def act_Same_k0 : List Kd := [.pure, .pure, .pure, .pure]
def act_Same (a : List Act) (b : List Act) : Bool :=
  (a == b)
theorem act_Same_walk (a : List Act) (b : List Act) (f_a : Bool) (f_b : Bool) (r : Bool) (H : act_Same a b = r) :
    ACalls Try.prog tab.S 63 [.sl 42 (List.map Act.av a) f_a, .sl 42 (List.map Act.av b) f_b] [] (.sc (.bool r)) [] := by
  have hG := tab_ok
  have hm := mixed
  refine ACalls.of_AR (G := tab) act_Same_F (fn := Try.f63) Try.func63 (by kernel_rfl) (by kernel_rfl) (by kernel_rfl) (Nat.le_of_ble_eq_true (by kernel_rfl)) ?_
  intro c0 hc0
  replace hc0 : c0.m.length = 0 := hc0
  rw [act_Same] at H
  refine AR.seg hG hm 3 [0, 1] (k' := [.code [1, 0], .code [1, 1]]) (t' := [(0, .sl 42 (List.map Act.av a) f_a), (1, .sl 42 (List.map Act.av b) f_b)]) (h' := []) (by kernel_rfl) ?_
  refine AR.reg hm act_Same_k0 (by kernel_rfl) ?_
  refine DK.seg hG 2 [5, 6] (t' := [(5, .sl 42 (List.map Act.av a) f_a), (6, .sl 42 (List.map Act.av b) f_b)]) (h' := []) (by kernel_rfl) rfl ?_
  refine DK.op' [7] (t' := [(7, .sc (.bool (a == b)))]) (h' := []) (LSpec.callP' (slices_Equal__api_Act_ok a b f_a f_b) (by kernel_rfl)) (by kernel_rfl) rfl (by kernel_rfl) rfl ?_
  refine DK.seg hG 1 [4] (t' := [(4, .sc (.bool (a == b)))]) (h' := []) (by kernel_rfl) rfl ?_
  refine DK.done (by kernel_rfl) (by kernel_rfl) ?_
  subst H
  exact AR.ret0 (fn := Try.f63) hG Try.func63 (by kernel_rfl) hc0 (r0 := .sc (.bool (a == b))) (by kernel_rfl) (WkV.refl _)
theorem act_Same_calls (a : List Act) (b : List Act) (f_a : Bool) (f_b : Bool) : ACalls Try.prog tab.S 63 [.sl 42 (List.map Act.av a) f_a, .sl 42 (List.map Act.av b) f_b] [] (.sc (.bool (act_Same a b))) [] := act_Same_walk a b f_a f_b _ rfl

/-! ### podestaref04.SameActs: function 64 -/
noncomputable def podestaref04_SameActs_F : Go.Sh.Fn := ⟨64, bodyOf Try.f64, 26⟩
def podestaref04_SameActs_k0 : List Kd := [.pure, .pure, .pure, .pure, .pure, .pure, .pure, .pure, .pure]
def podestaref04_SameActs_l0s (b : List Act) : List Act → Nat → Option (Sum (Unit) (Bool))
  | [], i =>
    some (.inl ())
  | x :: rest, i =>
    (ixO b ((i : Nat) : Int)).bind fun x1 =>
    (bif (!((x.Kind == x1.Kind) && ((x.Port == x1.Port) && ((x.Field == x1.Field) && (x.Value == x1.Value))))) then
      some (.inr false)
    else
      podestaref04_SameActs_l0s b rest (i + 1) )
theorem podestaref04_SameActs_l0_walk (a : List Act) (b : List Act) (f_a : Bool) (f_b : Bool) (r : Bool) (c0 : Ctx) (hc0 : c0.m.length = 0) (res : Sum (Unit) (Bool)) (J : ∀ w : Unit, res = .inl w → AR Try.prog tab podestaref04_SameActs_F c0 (Rp tab.S c0 (.sc (.bool r)) []) [.code [1, 1, 1]] [] []) (Jr : ∀ w, res = .inr w → w = r) :
    ∀ (rest : List Act) (i : Nat) (hd : a.drop i = rest) (H : podestaref04_SameActs_l0s b rest i = some res), AR Try.prog tab podestaref04_SameActs_F c0 (Rp tab.S c0 (.sc (.bool r)) []) [.code [1, 1, 0, 1, 0, 0], .loop [1, 1, 0, 1, 0], .blk 0, .code [1, 1, 1]] [(0, .sl 42 (List.map Act.av a) f_a), (1, .sl 42 (List.map Act.av b) f_b), (5, .sc (.int .i64 ((i : Nat) : Int)))] [] := by
  have hG := tab_ok
  have hm := mixed
  intro rest
  induction rest with
  | nil =>
    intro i hd  H
    rw [podestaref04_SameActs_l0s] at H
    refine AR.facts 0 rfl fun hf => ?_
    have hlen : a.length ≤ 9223372036854775807 := by have hq := len_ok hf.2.1; rw [List.length_map] at hq; exact hq
    have hge : a.length ≤ i := List.drop_eq_nil_iff.1 hd
    have hc : (decide (((i : Nat) : Int) < (((List.map Act.av a).length : Nat) : Int))) = false := by rw [List.length_map]; exact decide_eq_false (by omega)
    refine AR.seg hG hm 3 [0, 1, 5, 14] (k' := [.code [1, 1, 0, 1, 0, 0, 0, 1], .code [1, 1, 0, 1, 0, 0, 1], .loop [1, 1, 0, 1, 0], .blk 0, .code [1, 1, 1]]) (t' := [(0, .sl 42 (List.map Act.av a) f_a), (1, .sl 42 (List.map Act.av b) f_b), (5, .sc (.int .i64 ((i : Nat) : Int))), (14, .sc (.bool (decide (((i : Nat) : Int) < (((List.map Act.av a).length : Nat) : Int)))))]) (h' := []) (by kernel_rfl) ?_
    refine AR.cond (.tmp 14) (decide (((i : Nat) : Int) < (((List.map Act.av a).length : Nat) : Int))) (by kernel_rfl) (by kernel_rfl) (fun hb => ?ht8) (fun hb => ?hf8)
    case ht8 => exact absurd (hb.symm.trans hc) (by decide)
    case hf8 =>
      refine AR.seg hG hm 1 [] (k' := [.code [1, 1, 1]]) (t' := []) (h' := []) (by kernel_rfl) ?_
      refine AR.keep [] (t' := []) (by kernel_rfl) ?_
      exact J () (Option.some.inj H).symm
  | cons x rest ih =>
    intro i hd  H
    rw [podestaref04_SameActs_l0s] at H
    refine AR.facts 0 rfl fun hf => ?_
    have hlen : a.length ≤ 9223372036854775807 := by have hq := len_ok hf.2.1; rw [List.length_map] at hq; exact hq
    obtain ⟨hlt, hv_i, hd2⟩ := drop_cons hd
    have hc : (decide (((i : Nat) : Int) < (((List.map Act.av a).length : Nat) : Int))) = true := by rw [List.length_map]; exact decide_eq_true (by omega)
    have hw : IntKind.i64.wrap (((i : Nat) : Int) + 1) = ((i + 1 : Nat) : Int) := wrapI_succ (by omega)
    refine AR.seg hG hm 3 [0, 1, 5, 14] (k' := [.code [1, 1, 0, 1, 0, 0, 0, 1], .code [1, 1, 0, 1, 0, 0, 1], .loop [1, 1, 0, 1, 0], .blk 0, .code [1, 1, 1]]) (t' := [(0, .sl 42 (List.map Act.av a) f_a), (1, .sl 42 (List.map Act.av b) f_b), (5, .sc (.int .i64 ((i : Nat) : Int))), (14, .sc (.bool (decide (((i : Nat) : Int) < (((List.map Act.av a).length : Nat) : Int)))))]) (h' := []) (by kernel_rfl) ?_
    refine AR.cond (.tmp 14) (decide (((i : Nat) : Int) < (((List.map Act.av a).length : Nat) : Int))) (by kernel_rfl) (by kernel_rfl) (fun hb => ?ht9) (fun hb => ?hf9)
    case ht9 =>
      refine AR.seg hG hm 4 [0, 1, 5] (k' := [.code [1, 1, 0, 1, 0, 0, 1, 0, 0, 0], .code [1, 1, 0, 1, 0, 0, 1, 0, 0, 1], .blk 1, .code [1, 1, 0, 1, 0, 0, 1, 1], .loop [1, 1, 0, 1, 0], .blk 0, .code [1, 1, 1]]) (t' := [(0, .sl 42 (List.map Act.av a) f_a), (1, .sl 42 (List.map Act.av b) f_b), (5, .sc (.int .i64 ((i : Nat) : Int)))]) (h' := []) (by kernel_rfl) ?_
      refine AR.reg hm podestaref04_SameActs_k0 (by kernel_rfl) ?_
      refine DK.seg hG 2 [0, 1, 5, 17, 18] (t' := [(0, .sl 42 (List.map Act.av a) f_a), (1, .sl 42 (List.map Act.av b) f_b), (5, .sc (.int .i64 ((i : Nat) : Int))), (17, .sl 42 (List.map Act.av a) f_a), (18, .sc (.int .i64 ((i : Nat) : Int)))]) (h' := []) (by kernel_rfl) rfl ?_
      refine DK.op' [0, 1, 5, 19] (t' := [(0, .sl 42 (List.map Act.av a) f_a), (1, .sl 42 (List.map Act.av b) f_b), (5, .sc (.int .i64 ((i : Nat) : Int))), (19, .ep [.sc (.int .i64 x.Kind), .sc (.int .i64 x.Port), .sc (.int .i64 x.Field), .sc (.int .u64 x.Value)] 0 none)]) (h' := []) (LSpec.index' (r := Act.av x) (fs := [.sc (.int .i64 x.Kind), .sc (.int .i64 x.Port), .sc (.int .i64 x.Field), .sc (.int .u64 x.Value)]) hG (rows := List.map Act.av a) (j := ((i : Nat) : Int)) (by kernel_rfl) (ixO_map hv_i _) (by kernel_rfl)) (by kernel_rfl) rfl (by kernel_rfl) rfl ?_
      refine DK.seg hG 3 [0, 1, 5, 20, 21, 22] (t' := [(0, .sl 42 (List.map Act.av a) f_a), (1, .sl 42 (List.map Act.av b) f_b), (5, .sc (.int .i64 ((i : Nat) : Int))), (20, Act.av x), (21, .sl 42 (List.map Act.av b) f_b), (22, .sc (.int .i64 ((i : Nat) : Int)))]) (h' := []) (by kernel_rfl) rfl ?_
      obtain ⟨x1, hv, H⟩ := Option.bind_eq_some_iff.1 H
      refine DK.op' [0, 1, 5, 20, 23] (t' := [(0, .sl 42 (List.map Act.av a) f_a), (1, .sl 42 (List.map Act.av b) f_b), (5, .sc (.int .i64 ((i : Nat) : Int))), (20, Act.av x), (23, .ep [.sc (.int .i64 x1.Kind), .sc (.int .i64 x1.Port), .sc (.int .i64 x1.Field), .sc (.int .u64 x1.Value)] 0 none)]) (h' := []) (LSpec.index' (r := Act.av x1) (fs := [.sc (.int .i64 x1.Kind), .sc (.int .i64 x1.Port), .sc (.int .i64 x1.Field), .sc (.int .u64 x1.Value)]) hG (rows := List.map Act.av b) (j := ((i : Nat) : Int)) (by kernel_rfl) (ixO_map hv _) (by kernel_rfl)) (by kernel_rfl) rfl (by kernel_rfl) rfl ?_
      refine DK.seg hG 1 [0, 1, 5, 20, 24] (t' := [(0, .sl 42 (List.map Act.av a) f_a), (1, .sl 42 (List.map Act.av b) f_b), (5, .sc (.int .i64 ((i : Nat) : Int))), (20, Act.av x), (24, Act.av x1)]) (h' := []) (by kernel_rfl) rfl ?_
      refine DK.op' [0, 1, 5, 25] (t' := [(0, .sl 42 (List.map Act.av a) f_a), (1, .sl 42 (List.map Act.av b) f_b), (5, .sc (.int .i64 ((i : Nat) : Int))), (25, .sc (.bool (!((x.Kind == x1.Kind) && ((x.Port == x1.Port) && ((x.Field == x1.Field) && (x.Value == x1.Value)))))))]) (h' := []) (LSpec.eq' 9 (r := (!((x.Kind == x1.Kind) && ((x.Port == x1.Port) && ((x.Field == x1.Field) && (x.Value == x1.Value)))))) (by kernel_rfl)) (by kernel_rfl) rfl (by kernel_rfl) rfl ?_
      refine DK.done (by kernel_rfl) (by kernel_rfl) ?_
      refine AR.cond (.tmp 25) (!((x.Kind == x1.Kind) && ((x.Port == x1.Port) && ((x.Field == x1.Field) && (x.Value == x1.Value))))) (by kernel_rfl) (by kernel_rfl) (fun hb => ?ht10) (fun hb => ?hf10)
      case ht10 =>
        replace H := cond_t hb H
        refine AR.seg hG hm 2 [4] (k' := [.code [1, 1, 0, 1, 0, 0, 1, 0, 0, 1, 0, 1], .blk 1, .code [1, 1, 0, 1, 0, 0, 1, 1], .loop [1, 1, 0, 1, 0], .blk 0, .code [1, 1, 1]]) (t' := [(4, .sc (.bool false))]) (h' := []) (by kernel_rfl) ?_
        obtain rfl := Option.some.inj H
        obtain rfl := Jr _ rfl
        exact AR.ret0 (fn := Try.f64) hG Try.func64 (by kernel_rfl) hc0 (r0 := .sc (.bool false)) (by kernel_rfl) (WkV.refl _)
      case hf10 =>
        replace H := cond_f hb H
        refine AR.seg hG hm 3 [0, 1, 5] (k' := [.loop [1, 1, 0, 1, 0], .blk 0, .code [1, 1, 1]]) (t' := [(0, .sl 42 (List.map Act.av a) f_a), (1, .sl 42 (List.map Act.av b) f_b), (5, .sc (.int .i64 (IntKind.i64.wrap (((i : Nat) : Int) + 1))))]) (h' := []) (by kernel_rfl) ?_
        refine AR.keep [0, 1, 5] (t' := [(0, .sl 42 (List.map Act.av a) f_a), (1, .sl 42 (List.map Act.av b) f_b), (5, .sc (.int .i64 (IntKind.i64.wrap (((i : Nat) : Int) + 1))))]) (by kernel_rfl) ?_
        refine AR.loop_round ?_
        rw [hw]
        exact ih (i + 1) hd2 H
    case hf9 => exact absurd (hc.symm.trans hb) (by decide)

def podestaref04_SameActs_raw (a : List Act) (b : List Act) : Option (Bool) :=
  (bif ((((List.map Act.av a).length : Nat) : Int) != (((List.map Act.av b).length : Nat) : Int)) then
    some false
  else
    loopO (podestaref04_SameActs_l0s b a 0) fun v =>
    some true)
theorem podestaref04_SameActs_walk (a : List Act) (b : List Act) (f_a : Bool) (f_b : Bool) (r : Bool) (H : podestaref04_SameActs_raw a b = some r) :
    ACalls Try.prog tab.S 64 [.sl 42 (List.map Act.av a) f_a, .sl 42 (List.map Act.av b) f_b] [] (.sc (.bool r)) [] := by
  have hG := tab_ok
  have hm := mixed
  refine ACalls.of_AR (G := tab) podestaref04_SameActs_F (fn := Try.f64) Try.func64 (by kernel_rfl) (by kernel_rfl) (by kernel_rfl) (Nat.le_of_ble_eq_true (by kernel_rfl)) ?_
  intro c0 hc0
  replace hc0 : c0.m.length = 0 := hc0
  rw [podestaref04_SameActs_raw] at H
  refine AR.seg hG hm 5 [0, 1, 10] (k' := [.code [1, 0, 1], .code [1, 1]]) (t' := [(0, .sl 42 (List.map Act.av a) f_a), (1, .sl 42 (List.map Act.av b) f_b), (10, .sc (.bool ((((List.map Act.av a).length : Nat) : Int) != (((List.map Act.av b).length : Nat) : Int))))]) (h' := []) (by kernel_rfl) ?_
  refine AR.cond (.tmp 10) ((((List.map Act.av a).length : Nat) : Int) != (((List.map Act.av b).length : Nat) : Int)) (by kernel_rfl) (by kernel_rfl) (fun hb => ?ht1) (fun hb => ?hf1)
  case ht1 =>
    replace H := cond_t hb H
    refine AR.seg hG hm 2 [4] (k' := [.code [1, 0, 1, 0, 1], .code [1, 1]]) (t' := [(4, .sc (.bool false))]) (h' := []) (by kernel_rfl) ?_
    obtain rfl := Option.some.inj H
    exact AR.ret0 (fn := Try.f64) hG Try.func64 (by kernel_rfl) hc0 (r0 := .sc (.bool false)) (by kernel_rfl) (WkV.refl _)
  case hf1 =>
    replace H := cond_f hb H
    refine AR.seg hG hm 5 [0, 1, 5] (k' := [.code [1, 1, 0, 1, 0], .blk 0, .code [1, 1, 1]]) (t' := [(0, .sl 42 (List.map Act.av a) f_a), (1, .sl 42 (List.map Act.av b) f_b), (5, .sc (.int .i64 0))]) (h' := []) (by kernel_rfl) ?_
    rcases loopO_some H with ⟨v, hv, H⟩ | hv
    case inr =>
      refine AR.into (by kernel_rfl) ?_
      exact podestaref04_SameActs_l0_walk a b f_a f_b _ c0 hc0 (.inr _) (fun _ e => by cases e) (fun _ e => (Sum.inr.inj e).symm) a 0 rfl hv
    refine AR.into (by kernel_rfl) ?_
    refine podestaref04_SameActs_l0_walk a b f_a f_b r c0 hc0 (.inl v) (fun w e => ?_) (fun _ e => by cases e) a 0 rfl hv
    have e := Sum.inl.inj e
    subst e
    refine AR.seg hG hm 2 [4] (k' := [.code [1, 1, 1, 1]]) (t' := [(4, .sc (.bool true))]) (h' := []) (by kernel_rfl) ?_
    obtain rfl := Option.some.inj H
    exact AR.ret0 (fn := Try.f64) hG Try.func64 (by kernel_rfl) hc0 (r0 := .sc (.bool true)) (by kernel_rfl) (WkV.refl _)

theorem podestaref04_SameActs_ok (a b : List Act) (f_a f_b : Bool) : ACalls Try.prog tab.S 64 [.sl 42 (List.map Act.av a) f_a, .sl 42 (List.map Act.av b) f_b] [] (.sc (.bool (a == b))) [] := by
  refine podestaref04_SameActs_walk a b f_a f_b _ ?_
  rw [podestaref04_SameActs_raw, len_bne]
  by_cases h : a.length = b.length
  · simp only [h, decide_true, Bool.not_true, cond_false]
    rw [cmp_loop (v := false) (podestaref04_SameActs_l0s b) b (fun x y => x == y) (fun _ => rfl) (fun x r i => by rw [podestaref04_SameActs_l0s]; simp only [Act.beq_eq]) a 0 (by omega), List.drop_zero, zipAll_beq]
    cases a == b <;> rfl
  · have e : (a == b) = false := by
      rw [beq_eq_false_iff_ne]
      intro e
      exact h (by rw [e])
    rw [e]
    simp only [h, decide_false, Bool.not_false, cond_true]

/-! ### rule.Equal: function 46 -/
noncomputable def rule_Equal_F : Go.Sh.Fn := ⟨46, bodyOf Try.f46, 63⟩
def rule_Equal_k1 : List Kd := [.pure, .pure, .pure, .pure, .pure, .pure, .read, .read, .pure, .pure, .pure, .pure, .read, .pure, .read, .pure, .pure, .pure, .pure, .read, .pure, .read, .pure, .pure, .pure, .pure, .read, .pure, .read, .pure, .pure, .pure, .pure, .read, .pure, .read, .pure, .pure, .pure, .pure, .read, .pure, .read, .pure, .pure, .pure, .pure, .read, .pure, .read, .pure, .pure, .pure]
def rule_Equal_k2 : List Kd := [.pure, .pure, .pure, .pure, .pure, .pure, .read, .read, .pure, .pure, .pure, .pure, .read, .pure, .read, .pure, .pure, .pure, .pure, .read, .pure, .read, .pure, .pure, .pure, .pure, .read, .pure, .read, .pure, .pure, .pure, .pure, .read, .pure, .read, .pure, .pure, .pure, .pure, .read, .pure, .read, .pure, .pure, .pure, .pure, .read, .pure, .read, .pure, .pure, .pure]
def rule_Equal_k0 : List Kd := [.pure, .pure, .pure]
def rule_Equal (a : Rule) (b : Rule) : Bool :=
  ((((((((act_Same a.Acts b.Acts) && (rule_Key ({ a with Acts := [] } : Rule) ({ b with Acts := [] } : Rule))) && (a.Idle == b.Idle)) && (a.Hard == b.Hard)) && (a.Owner == b.Owner)) && (a.Hits == b.Hits)) && (a.Quiet == b.Quiet)) && (a.Age == b.Age))
theorem rule_Equal_walk (a : Rule) (b : Rule) (r : Bool) (H : rule_Equal a b = r) :
    ACalls Try.prog tab.S 46 [Rule.av a, Rule.av b] [] (.sc (.bool r)) [] := by
  have hG := tab_ok
  have hm := mixed
  refine ACalls.of_AR (G := tab) rule_Equal_F (fn := Try.f46) Try.func46 (by kernel_rfl) (by kernel_rfl) (by kernel_rfl) (Nat.le_of_ble_eq_true (by kernel_rfl)) ?_
  intro c0 hc0
  replace hc0 : c0.m.length = 0 := hc0
  rw [rule_Equal] at H
  refine AR.seg hG hm 1 [0, 1] (k' := [.code [0], .code [1]]) (t' := [(0, Rule.av a), (1, Rule.av b)]) (h' := []) (by kernel_rfl) ?_
  refine AR.reg hm rule_Equal_k0 (by kernel_rfl) ?_
  refine DK.op' [1, 2] (t' := [(1, Rule.av b), (2, .ep [.arr .u64 12 a.Match.Value, .arr .u64 12 a.Match.Care, .sc (.int .i64 a.Prio), .sl 42 (List.map Act.av a.Acts) false, .sc (.int .i64 a.Idle), .sc (.int .i64 a.Hard), .sc (.int .i64 a.Owner), .sc (.int .i64 a.Hits), .sc (.int .i64 a.Quiet), .sc (.int .i64 a.Age)] 0 none)]) (h' := []) (LSpec.boxP (fs := [.arr .u64 12 a.Match.Value, .arr .u64 12 a.Match.Care, .sc (.int .i64 a.Prio), .sl 42 (List.map Act.av a.Acts) false, .sc (.int .i64 a.Idle), .sc (.int .i64 a.Hard), .sc (.int .i64 a.Owner), .sc (.int .i64 a.Hits), .sc (.int .i64 a.Quiet), .sc (.int .i64 a.Age)]) (by kernel_rfl)) (by kernel_rfl) rfl (by kernel_rfl) rfl ?_
  refine DK.op' [2, 3] (t' := [(2, .ep [.arr .u64 12 a.Match.Value, .arr .u64 12 a.Match.Care, .sc (.int .i64 a.Prio), .sl 42 (List.map Act.av a.Acts) false, .sc (.int .i64 a.Idle), .sc (.int .i64 a.Hard), .sc (.int .i64 a.Owner), .sc (.int .i64 a.Hits), .sc (.int .i64 a.Quiet), .sc (.int .i64 a.Age)] 0 none), (3, .ep [.arr .u64 12 b.Match.Value, .arr .u64 12 b.Match.Care, .sc (.int .i64 b.Prio), .sl 42 (List.map Act.av b.Acts) false, .sc (.int .i64 b.Idle), .sc (.int .i64 b.Hard), .sc (.int .i64 b.Owner), .sc (.int .i64 b.Hits), .sc (.int .i64 b.Quiet), .sc (.int .i64 b.Age)] 0 none)]) (h' := []) (LSpec.boxP (fs := [.arr .u64 12 b.Match.Value, .arr .u64 12 b.Match.Care, .sc (.int .i64 b.Prio), .sl 42 (List.map Act.av b.Acts) false, .sc (.int .i64 b.Idle), .sc (.int .i64 b.Hard), .sc (.int .i64 b.Owner), .sc (.int .i64 b.Hits), .sc (.int .i64 b.Quiet), .sc (.int .i64 b.Age)]) (by kernel_rfl)) (by kernel_rfl) rfl (by kernel_rfl) rfl ?_
  refine DK.seg hG 1 [2, 3] (t' := [(2, .ep [.arr .u64 12 a.Match.Value, .arr .u64 12 a.Match.Care, .sc (.int .i64 a.Prio), .sl 42 (List.map Act.av a.Acts) false, .sc (.int .i64 a.Idle), .sc (.int .i64 a.Hard), .sc (.int .i64 a.Owner), .sc (.int .i64 a.Hits), .sc (.int .i64 a.Quiet), .sc (.int .i64 a.Age)] 0 none), (3, .ep [.arr .u64 12 b.Match.Value, .arr .u64 12 b.Match.Care, .sc (.int .i64 b.Prio), .sl 42 (List.map Act.av b.Acts) false, .sc (.int .i64 b.Idle), .sc (.int .i64 b.Hard), .sc (.int .i64 b.Owner), .sc (.int .i64 b.Hits), .sc (.int .i64 b.Quiet), .sc (.int .i64 b.Age)] 0 none)]) (h' := []) (by kernel_rfl) rfl ?_
  refine DK.done (by kernel_rfl) (by kernel_rfl) ?_
  refine AR.seg hG hm 1 [2, 3] (k' := [.code [1, 0], .code [1, 1]]) (t' := [(2, .ep [.arr .u64 12 a.Match.Value, .arr .u64 12 a.Match.Care, .sc (.int .i64 a.Prio), .sl 42 (List.map Act.av a.Acts) false, .sc (.int .i64 a.Idle), .sc (.int .i64 a.Hard), .sc (.int .i64 a.Owner), .sc (.int .i64 a.Hits), .sc (.int .i64 a.Quiet), .sc (.int .i64 a.Age)] 0 none), (3, .ep [.arr .u64 12 b.Match.Value, .arr .u64 12 b.Match.Care, .sc (.int .i64 b.Prio), .sl 42 (List.map Act.av b.Acts) false, .sc (.int .i64 b.Idle), .sc (.int .i64 b.Hard), .sc (.int .i64 b.Owner), .sc (.int .i64 b.Hits), .sc (.int .i64 b.Quiet), .sc (.int .i64 b.Age)] 0 none)]) (h' := []) (by kernel_rfl) ?_
  refine AR.regX hG hm [2, 3, 5, 6] [true, false, true, true, true, false, false, false, true, false, true, true, false, false, true, true, true, true, true, true, true, true, false, false, false, false, false, false, false, false] ([(2, .ep [.arr .u64 12 a.Match.Value, .arr .u64 12 a.Match.Care, .sc (.int .i64 a.Prio), .sl 42 (List.map Act.av a.Acts) false, .sc (.int .i64 a.Idle), .sc (.int .i64 a.Hard), .sc (.int .i64 a.Owner), .sc (.int .i64 a.Hits), .sc (.int .i64 a.Quiet), .sc (.int .i64 a.Age)] 0 none), (3, .ep [.arr .u64 12 b.Match.Value, .arr .u64 12 b.Match.Care, .sc (.int .i64 b.Prio), .sl 42 (List.map Act.av b.Acts) false, .sc (.int .i64 b.Idle), .sc (.int .i64 b.Hard), .sc (.int .i64 b.Owner), .sc (.int .i64 b.Hits), .sc (.int .i64 b.Quiet), .sc (.int .i64 b.Age)] 0 none), (5, .ptr 0 0 none), (6, .ptr 1 0 none)], [.box 34 [.arr .u64 12 a.Match.Value, .arr .u64 12 a.Match.Care, .sc (.int .i64 a.Prio), .sl 42 (List.map Act.av a.Acts) false, .sc (.int .i64 a.Idle), .sc (.int .i64 a.Hard), .sc (.int .i64 a.Owner), .sc (.int .i64 a.Hits), .sc (.int .i64 a.Quiet), .sc (.int .i64 a.Age)], .box 34 [.arr .u64 12 b.Match.Value, .arr .u64 12 b.Match.Care, .sc (.int .i64 b.Prio), .sl 42 (List.map Act.av b.Acts) false, .sc (.int .i64 b.Idle), .sc (.int .i64 b.Hard), .sc (.int .i64 b.Owner), .sc (.int .i64 b.Hits), .sc (.int .i64 b.Quiet), .sc (.int .i64 b.Age)]]) ([(2, .ep [.arr .u64 12 a.Match.Value, .arr .u64 12 a.Match.Care, .sc (.int .i64 a.Prio), .sl 42 (List.map Act.av a.Acts) false, .sc (.int .i64 a.Idle), .sc (.int .i64 a.Hard), .sc (.int .i64 a.Owner), .sc (.int .i64 a.Hits), .sc (.int .i64 a.Quiet), .sc (.int .i64 a.Age)] 0 none), (3, .ep [.arr .u64 12 b.Match.Value, .arr .u64 12 b.Match.Care, .sc (.int .i64 b.Prio), .sl 42 (List.map Act.av b.Acts) false, .sc (.int .i64 b.Idle), .sc (.int .i64 b.Hard), .sc (.int .i64 b.Owner), .sc (.int .i64 b.Hits), .sc (.int .i64 b.Quiet), .sc (.int .i64 b.Age)] 0 none), (5, .ptr 1 0 none), (6, .ptr 0 0 none)], [.box 34 [.arr .u64 12 b.Match.Value, .arr .u64 12 b.Match.Care, .sc (.int .i64 b.Prio), .sl 42 (List.map Act.av b.Acts) false, .sc (.int .i64 b.Idle), .sc (.int .i64 b.Hard), .sc (.int .i64 b.Owner), .sc (.int .i64 b.Hits), .sc (.int .i64 b.Quiet), .sc (.int .i64 b.Age)], .box 34 [.arr .u64 12 a.Match.Value, .arr .u64 12 a.Match.Care, .sc (.int .i64 a.Prio), .sl 42 (List.map Act.av a.Acts) false, .sc (.int .i64 a.Idle), .sc (.int .i64 a.Hard), .sc (.int .i64 a.Owner), .sc (.int .i64 a.Hits), .sc (.int .i64 a.Quiet), .sc (.int .i64 a.Age)]]) (by kernel_rfl) (by kernel_rfl) ?xa0 ?xb0
  case xa0 =>
    refine AR.seg hG hm 3 [2, 3, 5, 6] (k' := [.code [1, 1, 1, 0], .code [1, 1, 1, 1]]) (t' := [(2, .ep [.arr .u64 12 a.Match.Value, .arr .u64 12 a.Match.Care, .sc (.int .i64 a.Prio), .sl 42 (List.map Act.av a.Acts) false, .sc (.int .i64 a.Idle), .sc (.int .i64 a.Hard), .sc (.int .i64 a.Owner), .sc (.int .i64 a.Hits), .sc (.int .i64 a.Quiet), .sc (.int .i64 a.Age)] 0 none), (3, .ep [.arr .u64 12 b.Match.Value, .arr .u64 12 b.Match.Care, .sc (.int .i64 b.Prio), .sl 42 (List.map Act.av b.Acts) false, .sc (.int .i64 b.Idle), .sc (.int .i64 b.Hard), .sc (.int .i64 b.Owner), .sc (.int .i64 b.Hits), .sc (.int .i64 b.Quiet), .sc (.int .i64 b.Age)] 0 none), (5, .ptr 0 0 none), (6, .ptr 1 0 none)]) (h' := [.box 34 [.arr .u64 12 a.Match.Value, .arr .u64 12 a.Match.Care, .sc (.int .i64 a.Prio), .sl 0 [] true, .sc (.int .i64 a.Idle), .sc (.int .i64 a.Hard), .sc (.int .i64 a.Owner), .sc (.int .i64 a.Hits), .sc (.int .i64 a.Quiet), .sc (.int .i64 a.Age)], .box 34 [.arr .u64 12 b.Match.Value, .arr .u64 12 b.Match.Care, .sc (.int .i64 b.Prio), .sl 0 [] true, .sc (.int .i64 b.Idle), .sc (.int .i64 b.Hard), .sc (.int .i64 b.Owner), .sc (.int .i64 b.Hits), .sc (.int .i64 b.Quiet), .sc (.int .i64 b.Age)]]) (by kernel_rfl) ?_
    refine AR.reg hm rule_Equal_k1 (by kernel_rfl) ?_
    refine DK.seg hG 4 [5, 6, 12, 14] (t' := [(5, .ptr 0 0 none), (6, .ptr 1 0 none), (12, .sl 42 (List.map Act.av a.Acts) false), (14, .sl 42 (List.map Act.av b.Acts) false)]) (h' := [.box 34 [.arr .u64 12 a.Match.Value, .arr .u64 12 a.Match.Care, .sc (.int .i64 a.Prio), .sl 0 [] true, .sc (.int .i64 a.Idle), .sc (.int .i64 a.Hard), .sc (.int .i64 a.Owner), .sc (.int .i64 a.Hits), .sc (.int .i64 a.Quiet), .sc (.int .i64 a.Age)], .box 34 [.arr .u64 12 b.Match.Value, .arr .u64 12 b.Match.Care, .sc (.int .i64 b.Prio), .sl 0 [] true, .sc (.int .i64 b.Idle), .sc (.int .i64 b.Hard), .sc (.int .i64 b.Owner), .sc (.int .i64 b.Hits), .sc (.int .i64 b.Quiet), .sc (.int .i64 b.Age)]]) (by kernel_rfl) rfl ?_
    refine DK.op' [5, 6, 15] (t' := [(5, .ptr 0 0 none), (6, .ptr 1 0 none), (15, .sc (.bool (act_Same a.Acts b.Acts)))]) (h' := [.box 34 [.arr .u64 12 a.Match.Value, .arr .u64 12 a.Match.Care, .sc (.int .i64 a.Prio), .sl 0 [] true, .sc (.int .i64 a.Idle), .sc (.int .i64 a.Hard), .sc (.int .i64 a.Owner), .sc (.int .i64 a.Hits), .sc (.int .i64 a.Quiet), .sc (.int .i64 a.Age)], .box 34 [.arr .u64 12 b.Match.Value, .arr .u64 12 b.Match.Care, .sc (.int .i64 b.Prio), .sl 0 [] true, .sc (.int .i64 b.Idle), .sc (.int .i64 b.Hard), .sc (.int .i64 b.Owner), .sc (.int .i64 b.Hits), .sc (.int .i64 b.Quiet), .sc (.int .i64 b.Age)]]) (LSpec.callP' (act_Same_calls a.Acts b.Acts false false) (by kernel_rfl)) (by kernel_rfl) rfl (by kernel_rfl) rfl ?_
    refine DK.seg hG 1 [5, 6, 16] (t' := [(5, .ptr 0 0 none), (6, .ptr 1 0 none), (16, .sc (.bool (act_Same a.Acts b.Acts)))]) (h' := [.box 34 [.arr .u64 12 a.Match.Value, .arr .u64 12 a.Match.Care, .sc (.int .i64 a.Prio), .sl 0 [] true, .sc (.int .i64 a.Idle), .sc (.int .i64 a.Hard), .sc (.int .i64 a.Owner), .sc (.int .i64 a.Hits), .sc (.int .i64 a.Quiet), .sc (.int .i64 a.Age)], .box 34 [.arr .u64 12 b.Match.Value, .arr .u64 12 b.Match.Care, .sc (.int .i64 b.Prio), .sl 0 [] true, .sc (.int .i64 b.Idle), .sc (.int .i64 b.Hard), .sc (.int .i64 b.Owner), .sc (.int .i64 b.Hits), .sc (.int .i64 b.Quiet), .sc (.int .i64 b.Age)]]) (by kernel_rfl) rfl ?_
    refine DK.mux 16 (act_Same a.Acts b.Acts) (j := 10) (h' := [.box 34 [.arr .u64 12 a.Match.Value, .arr .u64 12 a.Match.Care, .sc (.int .i64 a.Prio), .sl 0 [] true, .sc (.int .i64 a.Idle), .sc (.int .i64 a.Hard), .sc (.int .i64 a.Owner), .sc (.int .i64 a.Hits), .sc (.int .i64 a.Quiet), .sc (.int .i64 a.Age)], .box 34 [.arr .u64 12 b.Match.Value, .arr .u64 12 b.Match.Care, .sc (.int .i64 b.Prio), .sl 0 [] true, .sc (.int .i64 b.Idle), .sc (.int .i64 b.Hard), .sc (.int .i64 b.Owner), .sc (.int .i64 b.Hits), .sc (.int .i64 b.Quiet), .sc (.int .i64 b.Age)]]) (by kernel_rfl) (fun z => [(5, .ptr 0 0 none), (6, .ptr 1 0 none), (20, .sc (.bool (z && (rule_Key ({ a with Acts := [] } : Rule) ({ b with Acts := [] } : Rule)))))]) ?J1 (fun hb J => ?ht1) (fun hb J => ?hf1)
    case ht1 =>
      refine DK.seg hG 2 [5, 6, 16, 17, 18] (t' := [(5, .ptr 0 0 none), (6, .ptr 1 0 none), (16, .sc (.bool true)), (17, .agg [.arr .u64 12 a.Match.Value, .arr .u64 12 a.Match.Care, .sc (.int .i64 a.Prio), .sl 0 [] true, .sc (.int .i64 a.Idle), .sc (.int .i64 a.Hard), .sc (.int .i64 a.Owner), .sc (.int .i64 a.Hits), .sc (.int .i64 a.Quiet), .sc (.int .i64 a.Age)]), (18, .agg [.arr .u64 12 b.Match.Value, .arr .u64 12 b.Match.Care, .sc (.int .i64 b.Prio), .sl 0 [] true, .sc (.int .i64 b.Idle), .sc (.int .i64 b.Hard), .sc (.int .i64 b.Owner), .sc (.int .i64 b.Hits), .sc (.int .i64 b.Quiet), .sc (.int .i64 b.Age)])]) (h' := [.box 34 [.arr .u64 12 a.Match.Value, .arr .u64 12 a.Match.Care, .sc (.int .i64 a.Prio), .sl 0 [] true, .sc (.int .i64 a.Idle), .sc (.int .i64 a.Hard), .sc (.int .i64 a.Owner), .sc (.int .i64 a.Hits), .sc (.int .i64 a.Quiet), .sc (.int .i64 a.Age)], .box 34 [.arr .u64 12 b.Match.Value, .arr .u64 12 b.Match.Care, .sc (.int .i64 b.Prio), .sl 0 [] true, .sc (.int .i64 b.Idle), .sc (.int .i64 b.Hard), .sc (.int .i64 b.Owner), .sc (.int .i64 b.Hits), .sc (.int .i64 b.Quiet), .sc (.int .i64 b.Age)]]) (by kernel_rfl) rfl ?_
      refine DK.op' [5, 6, 16, 19] (t' := [(5, .ptr 0 0 none), (6, .ptr 1 0 none), (16, .sc (.bool true)), (19, .sc (.bool (rule_Key ({ a with Acts := [] } : Rule) ({ b with Acts := [] } : Rule))))]) (h' := [.box 34 [.arr .u64 12 a.Match.Value, .arr .u64 12 a.Match.Care, .sc (.int .i64 a.Prio), .sl 0 [] true, .sc (.int .i64 a.Idle), .sc (.int .i64 a.Hard), .sc (.int .i64 a.Owner), .sc (.int .i64 a.Hits), .sc (.int .i64 a.Quiet), .sc (.int .i64 a.Age)], .box 34 [.arr .u64 12 b.Match.Value, .arr .u64 12 b.Match.Care, .sc (.int .i64 b.Prio), .sl 0 [] true, .sc (.int .i64 b.Idle), .sc (.int .i64 b.Hard), .sc (.int .i64 b.Owner), .sc (.int .i64 b.Hits), .sc (.int .i64 b.Quiet), .sc (.int .i64 b.Age)]]) (LSpec.callP' (ACalls.wk (aas := [.agg [.arr .u64 12 a.Match.Value, .arr .u64 12 a.Match.Care, .sc (.int .i64 a.Prio), .sl 0 [] true, .sc (.int .i64 a.Idle), .sc (.int .i64 a.Hard), .sc (.int .i64 a.Owner), .sc (.int .i64 a.Hits), .sc (.int .i64 a.Quiet), .sc (.int .i64 a.Age)], .agg [.arr .u64 12 b.Match.Value, .arr .u64 12 b.Match.Care, .sc (.int .i64 b.Prio), .sl 0 [] true, .sc (.int .i64 b.Idle), .sc (.int .i64 b.Hard), .sc (.int .i64 b.Owner), .sc (.int .i64 b.Hits), .sc (.int .i64 b.Quiet), .sc (.int .i64 b.Age)]]) (Wks.cons (WkV.agg (WkL.cons (Wk1.refl _) (WkL.cons (Wk1.refl _) (WkL.cons (Wk1.refl _) (WkL.cons (Wk1.nil 42 false) (WkL.cons (Wk1.refl _) (WkL.cons (Wk1.refl _) (WkL.cons (Wk1.refl _) (WkL.cons (Wk1.refl _) (WkL.cons (Wk1.refl _) (WkL.cons (Wk1.refl _) WkL.nil))))))))))) trivial trivial (Wks.cons (WkV.agg (WkL.cons (Wk1.refl _) (WkL.cons (Wk1.refl _) (WkL.cons (Wk1.refl _) (WkL.cons (Wk1.nil 42 false) (WkL.cons (Wk1.refl _) (WkL.cons (Wk1.refl _) (WkL.cons (Wk1.refl _) (WkL.cons (Wk1.refl _) (WkL.cons (Wk1.refl _) (WkL.cons (Wk1.refl _) WkL.nil))))))))))) trivial trivial Wks.nil)) (rule_Key_calls ({ a with Acts := [] } : Rule) ({ b with Acts := [] } : Rule))) (by kernel_rfl)) (by kernel_rfl) rfl (by kernel_rfl) rfl ?_
      exact DK.seg hG 1 [5, 6, 20] (by kernel_rfl) rfl J
    case hf1 =>
      exact DK.seg hG 4 [5, 6, 20] (by kernel_rfl) rfl J
    refine DK.seg hG 1 [5, 6, 21] (t' := [(5, .ptr 0 0 none), (6, .ptr 1 0 none), (21, .sc (.bool ((act_Same a.Acts b.Acts) && (rule_Key ({ a with Acts := [] } : Rule) ({ b with Acts := [] } : Rule)))))]) (h' := [.box 34 [.arr .u64 12 a.Match.Value, .arr .u64 12 a.Match.Care, .sc (.int .i64 a.Prio), .sl 0 [] true, .sc (.int .i64 a.Idle), .sc (.int .i64 a.Hard), .sc (.int .i64 a.Owner), .sc (.int .i64 a.Hits), .sc (.int .i64 a.Quiet), .sc (.int .i64 a.Age)], .box 34 [.arr .u64 12 b.Match.Value, .arr .u64 12 b.Match.Care, .sc (.int .i64 b.Prio), .sl 0 [] true, .sc (.int .i64 b.Idle), .sc (.int .i64 b.Hard), .sc (.int .i64 b.Owner), .sc (.int .i64 b.Hits), .sc (.int .i64 b.Quiet), .sc (.int .i64 b.Age)]]) (by kernel_rfl) rfl ?_
    refine DK.mux 21 ((act_Same a.Acts b.Acts) && (rule_Key ({ a with Acts := [] } : Rule) ({ b with Acts := [] } : Rule))) (j := 17) (h' := [.box 34 [.arr .u64 12 a.Match.Value, .arr .u64 12 a.Match.Care, .sc (.int .i64 a.Prio), .sl 0 [] true, .sc (.int .i64 a.Idle), .sc (.int .i64 a.Hard), .sc (.int .i64 a.Owner), .sc (.int .i64 a.Hits), .sc (.int .i64 a.Quiet), .sc (.int .i64 a.Age)], .box 34 [.arr .u64 12 b.Match.Value, .arr .u64 12 b.Match.Care, .sc (.int .i64 b.Prio), .sl 0 [] true, .sc (.int .i64 b.Idle), .sc (.int .i64 b.Hard), .sc (.int .i64 b.Owner), .sc (.int .i64 b.Hits), .sc (.int .i64 b.Quiet), .sc (.int .i64 b.Age)]]) (by kernel_rfl) (fun z => [(5, .ptr 0 0 none), (6, .ptr 1 0 none), (27, .sc (.bool (z && (a.Idle == b.Idle))))]) ?J2 (fun hb J => ?ht2) (fun hb J => ?hf2)
    case ht2 =>
      exact DK.seg hG 6 [5, 6, 27] (by kernel_rfl) rfl J
    case hf2 =>
      exact DK.seg hG 6 [5, 6, 27] (by kernel_rfl) rfl J
    refine DK.seg hG 1 [5, 6, 28] (t' := [(5, .ptr 0 0 none), (6, .ptr 1 0 none), (28, .sc (.bool (((act_Same a.Acts b.Acts) && (rule_Key ({ a with Acts := [] } : Rule) ({ b with Acts := [] } : Rule))) && (a.Idle == b.Idle))))]) (h' := [.box 34 [.arr .u64 12 a.Match.Value, .arr .u64 12 a.Match.Care, .sc (.int .i64 a.Prio), .sl 0 [] true, .sc (.int .i64 a.Idle), .sc (.int .i64 a.Hard), .sc (.int .i64 a.Owner), .sc (.int .i64 a.Hits), .sc (.int .i64 a.Quiet), .sc (.int .i64 a.Age)], .box 34 [.arr .u64 12 b.Match.Value, .arr .u64 12 b.Match.Care, .sc (.int .i64 b.Prio), .sl 0 [] true, .sc (.int .i64 b.Idle), .sc (.int .i64 b.Hard), .sc (.int .i64 b.Owner), .sc (.int .i64 b.Hits), .sc (.int .i64 b.Quiet), .sc (.int .i64 b.Age)]]) (by kernel_rfl) rfl ?_
    refine DK.mux 28 (((act_Same a.Acts b.Acts) && (rule_Key ({ a with Acts := [] } : Rule) ({ b with Acts := [] } : Rule))) && (a.Idle == b.Idle)) (j := 24) (h' := [.box 34 [.arr .u64 12 a.Match.Value, .arr .u64 12 a.Match.Care, .sc (.int .i64 a.Prio), .sl 0 [] true, .sc (.int .i64 a.Idle), .sc (.int .i64 a.Hard), .sc (.int .i64 a.Owner), .sc (.int .i64 a.Hits), .sc (.int .i64 a.Quiet), .sc (.int .i64 a.Age)], .box 34 [.arr .u64 12 b.Match.Value, .arr .u64 12 b.Match.Care, .sc (.int .i64 b.Prio), .sl 0 [] true, .sc (.int .i64 b.Idle), .sc (.int .i64 b.Hard), .sc (.int .i64 b.Owner), .sc (.int .i64 b.Hits), .sc (.int .i64 b.Quiet), .sc (.int .i64 b.Age)]]) (by kernel_rfl) (fun z => [(5, .ptr 0 0 none), (6, .ptr 1 0 none), (34, .sc (.bool (z && (a.Hard == b.Hard))))]) ?J3 (fun hb J => ?ht3) (fun hb J => ?hf3)
    case ht3 =>
      exact DK.seg hG 6 [5, 6, 34] (by kernel_rfl) rfl J
    case hf3 =>
      exact DK.seg hG 6 [5, 6, 34] (by kernel_rfl) rfl J
    refine DK.seg hG 1 [5, 6, 35] (t' := [(5, .ptr 0 0 none), (6, .ptr 1 0 none), (35, .sc (.bool ((((act_Same a.Acts b.Acts) && (rule_Key ({ a with Acts := [] } : Rule) ({ b with Acts := [] } : Rule))) && (a.Idle == b.Idle)) && (a.Hard == b.Hard))))]) (h' := [.box 34 [.arr .u64 12 a.Match.Value, .arr .u64 12 a.Match.Care, .sc (.int .i64 a.Prio), .sl 0 [] true, .sc (.int .i64 a.Idle), .sc (.int .i64 a.Hard), .sc (.int .i64 a.Owner), .sc (.int .i64 a.Hits), .sc (.int .i64 a.Quiet), .sc (.int .i64 a.Age)], .box 34 [.arr .u64 12 b.Match.Value, .arr .u64 12 b.Match.Care, .sc (.int .i64 b.Prio), .sl 0 [] true, .sc (.int .i64 b.Idle), .sc (.int .i64 b.Hard), .sc (.int .i64 b.Owner), .sc (.int .i64 b.Hits), .sc (.int .i64 b.Quiet), .sc (.int .i64 b.Age)]]) (by kernel_rfl) rfl ?_
    refine DK.mux 35 ((((act_Same a.Acts b.Acts) && (rule_Key ({ a with Acts := [] } : Rule) ({ b with Acts := [] } : Rule))) && (a.Idle == b.Idle)) && (a.Hard == b.Hard)) (j := 31) (h' := [.box 34 [.arr .u64 12 a.Match.Value, .arr .u64 12 a.Match.Care, .sc (.int .i64 a.Prio), .sl 0 [] true, .sc (.int .i64 a.Idle), .sc (.int .i64 a.Hard), .sc (.int .i64 a.Owner), .sc (.int .i64 a.Hits), .sc (.int .i64 a.Quiet), .sc (.int .i64 a.Age)], .box 34 [.arr .u64 12 b.Match.Value, .arr .u64 12 b.Match.Care, .sc (.int .i64 b.Prio), .sl 0 [] true, .sc (.int .i64 b.Idle), .sc (.int .i64 b.Hard), .sc (.int .i64 b.Owner), .sc (.int .i64 b.Hits), .sc (.int .i64 b.Quiet), .sc (.int .i64 b.Age)]]) (by kernel_rfl) (fun z => [(5, .ptr 0 0 none), (6, .ptr 1 0 none), (41, .sc (.bool (z && (a.Owner == b.Owner))))]) ?J4 (fun hb J => ?ht4) (fun hb J => ?hf4)
    case ht4 =>
      exact DK.seg hG 6 [5, 6, 41] (by kernel_rfl) rfl J
    case hf4 =>
      exact DK.seg hG 6 [5, 6, 41] (by kernel_rfl) rfl J
    refine DK.seg hG 1 [5, 6, 42] (t' := [(5, .ptr 0 0 none), (6, .ptr 1 0 none), (42, .sc (.bool (((((act_Same a.Acts b.Acts) && (rule_Key ({ a with Acts := [] } : Rule) ({ b with Acts := [] } : Rule))) && (a.Idle == b.Idle)) && (a.Hard == b.Hard)) && (a.Owner == b.Owner))))]) (h' := [.box 34 [.arr .u64 12 a.Match.Value, .arr .u64 12 a.Match.Care, .sc (.int .i64 a.Prio), .sl 0 [] true, .sc (.int .i64 a.Idle), .sc (.int .i64 a.Hard), .sc (.int .i64 a.Owner), .sc (.int .i64 a.Hits), .sc (.int .i64 a.Quiet), .sc (.int .i64 a.Age)], .box 34 [.arr .u64 12 b.Match.Value, .arr .u64 12 b.Match.Care, .sc (.int .i64 b.Prio), .sl 0 [] true, .sc (.int .i64 b.Idle), .sc (.int .i64 b.Hard), .sc (.int .i64 b.Owner), .sc (.int .i64 b.Hits), .sc (.int .i64 b.Quiet), .sc (.int .i64 b.Age)]]) (by kernel_rfl) rfl ?_
    refine DK.mux 42 (((((act_Same a.Acts b.Acts) && (rule_Key ({ a with Acts := [] } : Rule) ({ b with Acts := [] } : Rule))) && (a.Idle == b.Idle)) && (a.Hard == b.Hard)) && (a.Owner == b.Owner)) (j := 38) (h' := [.box 34 [.arr .u64 12 a.Match.Value, .arr .u64 12 a.Match.Care, .sc (.int .i64 a.Prio), .sl 0 [] true, .sc (.int .i64 a.Idle), .sc (.int .i64 a.Hard), .sc (.int .i64 a.Owner), .sc (.int .i64 a.Hits), .sc (.int .i64 a.Quiet), .sc (.int .i64 a.Age)], .box 34 [.arr .u64 12 b.Match.Value, .arr .u64 12 b.Match.Care, .sc (.int .i64 b.Prio), .sl 0 [] true, .sc (.int .i64 b.Idle), .sc (.int .i64 b.Hard), .sc (.int .i64 b.Owner), .sc (.int .i64 b.Hits), .sc (.int .i64 b.Quiet), .sc (.int .i64 b.Age)]]) (by kernel_rfl) (fun z => [(5, .ptr 0 0 none), (6, .ptr 1 0 none), (48, .sc (.bool (z && (a.Hits == b.Hits))))]) ?J5 (fun hb J => ?ht5) (fun hb J => ?hf5)
    case ht5 =>
      exact DK.seg hG 6 [5, 6, 48] (by kernel_rfl) rfl J
    case hf5 =>
      exact DK.seg hG 6 [5, 6, 48] (by kernel_rfl) rfl J
    refine DK.seg hG 1 [5, 6, 49] (t' := [(5, .ptr 0 0 none), (6, .ptr 1 0 none), (49, .sc (.bool ((((((act_Same a.Acts b.Acts) && (rule_Key ({ a with Acts := [] } : Rule) ({ b with Acts := [] } : Rule))) && (a.Idle == b.Idle)) && (a.Hard == b.Hard)) && (a.Owner == b.Owner)) && (a.Hits == b.Hits))))]) (h' := [.box 34 [.arr .u64 12 a.Match.Value, .arr .u64 12 a.Match.Care, .sc (.int .i64 a.Prio), .sl 0 [] true, .sc (.int .i64 a.Idle), .sc (.int .i64 a.Hard), .sc (.int .i64 a.Owner), .sc (.int .i64 a.Hits), .sc (.int .i64 a.Quiet), .sc (.int .i64 a.Age)], .box 34 [.arr .u64 12 b.Match.Value, .arr .u64 12 b.Match.Care, .sc (.int .i64 b.Prio), .sl 0 [] true, .sc (.int .i64 b.Idle), .sc (.int .i64 b.Hard), .sc (.int .i64 b.Owner), .sc (.int .i64 b.Hits), .sc (.int .i64 b.Quiet), .sc (.int .i64 b.Age)]]) (by kernel_rfl) rfl ?_
    refine DK.mux 49 ((((((act_Same a.Acts b.Acts) && (rule_Key ({ a with Acts := [] } : Rule) ({ b with Acts := [] } : Rule))) && (a.Idle == b.Idle)) && (a.Hard == b.Hard)) && (a.Owner == b.Owner)) && (a.Hits == b.Hits)) (j := 45) (h' := [.box 34 [.arr .u64 12 a.Match.Value, .arr .u64 12 a.Match.Care, .sc (.int .i64 a.Prio), .sl 0 [] true, .sc (.int .i64 a.Idle), .sc (.int .i64 a.Hard), .sc (.int .i64 a.Owner), .sc (.int .i64 a.Hits), .sc (.int .i64 a.Quiet), .sc (.int .i64 a.Age)], .box 34 [.arr .u64 12 b.Match.Value, .arr .u64 12 b.Match.Care, .sc (.int .i64 b.Prio), .sl 0 [] true, .sc (.int .i64 b.Idle), .sc (.int .i64 b.Hard), .sc (.int .i64 b.Owner), .sc (.int .i64 b.Hits), .sc (.int .i64 b.Quiet), .sc (.int .i64 b.Age)]]) (by kernel_rfl) (fun z => [(5, .ptr 0 0 none), (6, .ptr 1 0 none), (55, .sc (.bool (z && (a.Quiet == b.Quiet))))]) ?J6 (fun hb J => ?ht6) (fun hb J => ?hf6)
    case ht6 =>
      exact DK.seg hG 6 [5, 6, 55] (by kernel_rfl) rfl J
    case hf6 =>
      exact DK.seg hG 6 [5, 6, 55] (by kernel_rfl) rfl J
    refine DK.seg hG 1 [5, 6, 56] (t' := [(5, .ptr 0 0 none), (6, .ptr 1 0 none), (56, .sc (.bool (((((((act_Same a.Acts b.Acts) && (rule_Key ({ a with Acts := [] } : Rule) ({ b with Acts := [] } : Rule))) && (a.Idle == b.Idle)) && (a.Hard == b.Hard)) && (a.Owner == b.Owner)) && (a.Hits == b.Hits)) && (a.Quiet == b.Quiet))))]) (h' := [.box 34 [.arr .u64 12 a.Match.Value, .arr .u64 12 a.Match.Care, .sc (.int .i64 a.Prio), .sl 0 [] true, .sc (.int .i64 a.Idle), .sc (.int .i64 a.Hard), .sc (.int .i64 a.Owner), .sc (.int .i64 a.Hits), .sc (.int .i64 a.Quiet), .sc (.int .i64 a.Age)], .box 34 [.arr .u64 12 b.Match.Value, .arr .u64 12 b.Match.Care, .sc (.int .i64 b.Prio), .sl 0 [] true, .sc (.int .i64 b.Idle), .sc (.int .i64 b.Hard), .sc (.int .i64 b.Owner), .sc (.int .i64 b.Hits), .sc (.int .i64 b.Quiet), .sc (.int .i64 b.Age)]]) (by kernel_rfl) rfl ?_
    refine DK.mux 56 (((((((act_Same a.Acts b.Acts) && (rule_Key ({ a with Acts := [] } : Rule) ({ b with Acts := [] } : Rule))) && (a.Idle == b.Idle)) && (a.Hard == b.Hard)) && (a.Owner == b.Owner)) && (a.Hits == b.Hits)) && (a.Quiet == b.Quiet)) (j := 52) (h' := [.box 34 [.arr .u64 12 a.Match.Value, .arr .u64 12 a.Match.Care, .sc (.int .i64 a.Prio), .sl 0 [] true, .sc (.int .i64 a.Idle), .sc (.int .i64 a.Hard), .sc (.int .i64 a.Owner), .sc (.int .i64 a.Hits), .sc (.int .i64 a.Quiet), .sc (.int .i64 a.Age)], .box 34 [.arr .u64 12 b.Match.Value, .arr .u64 12 b.Match.Care, .sc (.int .i64 b.Prio), .sl 0 [] true, .sc (.int .i64 b.Idle), .sc (.int .i64 b.Hard), .sc (.int .i64 b.Owner), .sc (.int .i64 b.Hits), .sc (.int .i64 b.Quiet), .sc (.int .i64 b.Age)]]) (by kernel_rfl) (fun z => [(62, .sc (.bool (z && (a.Age == b.Age))))]) ?J7 (fun hb J => ?ht7) (fun hb J => ?hf7)
    case ht7 =>
      exact DK.seg hG 6 [62] (by kernel_rfl) rfl J
    case hf7 =>
      exact DK.seg hG 6 [62] (by kernel_rfl) rfl J
    refine DK.seg hG 1 [4] (t' := [(4, .sc (.bool ((((((((act_Same a.Acts b.Acts) && (rule_Key ({ a with Acts := [] } : Rule) ({ b with Acts := [] } : Rule))) && (a.Idle == b.Idle)) && (a.Hard == b.Hard)) && (a.Owner == b.Owner)) && (a.Hits == b.Hits)) && (a.Quiet == b.Quiet)) && (a.Age == b.Age))))]) (h' := [.box 34 [.arr .u64 12 a.Match.Value, .arr .u64 12 a.Match.Care, .sc (.int .i64 a.Prio), .sl 0 [] true, .sc (.int .i64 a.Idle), .sc (.int .i64 a.Hard), .sc (.int .i64 a.Owner), .sc (.int .i64 a.Hits), .sc (.int .i64 a.Quiet), .sc (.int .i64 a.Age)], .box 34 [.arr .u64 12 b.Match.Value, .arr .u64 12 b.Match.Care, .sc (.int .i64 b.Prio), .sl 0 [] true, .sc (.int .i64 b.Idle), .sc (.int .i64 b.Hard), .sc (.int .i64 b.Owner), .sc (.int .i64 b.Hits), .sc (.int .i64 b.Quiet), .sc (.int .i64 b.Age)]]) (by kernel_rfl) rfl ?_
    refine DK.done (by kernel_rfl) (by kernel_rfl) ?_
    subst H
    exact AR.ret0 (fn := Try.f46) hG Try.func46 (by kernel_rfl) hc0 (r0 := .sc (.bool ((((((((act_Same a.Acts b.Acts) && (rule_Key ({ a with Acts := [] } : Rule) ({ b with Acts := [] } : Rule))) && (a.Idle == b.Idle)) && (a.Hard == b.Hard)) && (a.Owner == b.Owner)) && (a.Hits == b.Hits)) && (a.Quiet == b.Quiet)) && (a.Age == b.Age)))) (by kernel_rfl) (WkV.refl _)
  case xb0 =>
    refine AR.seg hG hm 3 [2, 3, 5, 6] (k' := [.code [1, 1, 1, 0], .code [1, 1, 1, 1]]) (t' := [(2, .ep [.arr .u64 12 a.Match.Value, .arr .u64 12 a.Match.Care, .sc (.int .i64 a.Prio), .sl 42 (List.map Act.av a.Acts) false, .sc (.int .i64 a.Idle), .sc (.int .i64 a.Hard), .sc (.int .i64 a.Owner), .sc (.int .i64 a.Hits), .sc (.int .i64 a.Quiet), .sc (.int .i64 a.Age)] 0 none), (3, .ep [.arr .u64 12 b.Match.Value, .arr .u64 12 b.Match.Care, .sc (.int .i64 b.Prio), .sl 42 (List.map Act.av b.Acts) false, .sc (.int .i64 b.Idle), .sc (.int .i64 b.Hard), .sc (.int .i64 b.Owner), .sc (.int .i64 b.Hits), .sc (.int .i64 b.Quiet), .sc (.int .i64 b.Age)] 0 none), (5, .ptr 1 0 none), (6, .ptr 0 0 none)]) (h' := [.box 34 [.arr .u64 12 b.Match.Value, .arr .u64 12 b.Match.Care, .sc (.int .i64 b.Prio), .sl 0 [] true, .sc (.int .i64 b.Idle), .sc (.int .i64 b.Hard), .sc (.int .i64 b.Owner), .sc (.int .i64 b.Hits), .sc (.int .i64 b.Quiet), .sc (.int .i64 b.Age)], .box 34 [.arr .u64 12 a.Match.Value, .arr .u64 12 a.Match.Care, .sc (.int .i64 a.Prio), .sl 0 [] true, .sc (.int .i64 a.Idle), .sc (.int .i64 a.Hard), .sc (.int .i64 a.Owner), .sc (.int .i64 a.Hits), .sc (.int .i64 a.Quiet), .sc (.int .i64 a.Age)]]) (by kernel_rfl) ?_
    refine AR.reg hm rule_Equal_k2 (by kernel_rfl) ?_
    refine DK.seg hG 4 [5, 6, 12, 14] (t' := [(5, .ptr 1 0 none), (6, .ptr 0 0 none), (12, .sl 42 (List.map Act.av a.Acts) false), (14, .sl 42 (List.map Act.av b.Acts) false)]) (h' := [.box 34 [.arr .u64 12 b.Match.Value, .arr .u64 12 b.Match.Care, .sc (.int .i64 b.Prio), .sl 0 [] true, .sc (.int .i64 b.Idle), .sc (.int .i64 b.Hard), .sc (.int .i64 b.Owner), .sc (.int .i64 b.Hits), .sc (.int .i64 b.Quiet), .sc (.int .i64 b.Age)], .box 34 [.arr .u64 12 a.Match.Value, .arr .u64 12 a.Match.Care, .sc (.int .i64 a.Prio), .sl 0 [] true, .sc (.int .i64 a.Idle), .sc (.int .i64 a.Hard), .sc (.int .i64 a.Owner), .sc (.int .i64 a.Hits), .sc (.int .i64 a.Quiet), .sc (.int .i64 a.Age)]]) (by kernel_rfl) rfl ?_
    refine DK.op' [5, 6, 15] (t' := [(5, .ptr 1 0 none), (6, .ptr 0 0 none), (15, .sc (.bool (act_Same a.Acts b.Acts)))]) (h' := [.box 34 [.arr .u64 12 b.Match.Value, .arr .u64 12 b.Match.Care, .sc (.int .i64 b.Prio), .sl 0 [] true, .sc (.int .i64 b.Idle), .sc (.int .i64 b.Hard), .sc (.int .i64 b.Owner), .sc (.int .i64 b.Hits), .sc (.int .i64 b.Quiet), .sc (.int .i64 b.Age)], .box 34 [.arr .u64 12 a.Match.Value, .arr .u64 12 a.Match.Care, .sc (.int .i64 a.Prio), .sl 0 [] true, .sc (.int .i64 a.Idle), .sc (.int .i64 a.Hard), .sc (.int .i64 a.Owner), .sc (.int .i64 a.Hits), .sc (.int .i64 a.Quiet), .sc (.int .i64 a.Age)]]) (LSpec.callP' (act_Same_calls a.Acts b.Acts false false) (by kernel_rfl)) (by kernel_rfl) rfl (by kernel_rfl) rfl ?_
    refine DK.seg hG 1 [5, 6, 16] (t' := [(5, .ptr 1 0 none), (6, .ptr 0 0 none), (16, .sc (.bool (act_Same a.Acts b.Acts)))]) (h' := [.box 34 [.arr .u64 12 b.Match.Value, .arr .u64 12 b.Match.Care, .sc (.int .i64 b.Prio), .sl 0 [] true, .sc (.int .i64 b.Idle), .sc (.int .i64 b.Hard), .sc (.int .i64 b.Owner), .sc (.int .i64 b.Hits), .sc (.int .i64 b.Quiet), .sc (.int .i64 b.Age)], .box 34 [.arr .u64 12 a.Match.Value, .arr .u64 12 a.Match.Care, .sc (.int .i64 a.Prio), .sl 0 [] true, .sc (.int .i64 a.Idle), .sc (.int .i64 a.Hard), .sc (.int .i64 a.Owner), .sc (.int .i64 a.Hits), .sc (.int .i64 a.Quiet), .sc (.int .i64 a.Age)]]) (by kernel_rfl) rfl ?_
    refine DK.mux 16 (act_Same a.Acts b.Acts) (j := 10) (h' := [.box 34 [.arr .u64 12 b.Match.Value, .arr .u64 12 b.Match.Care, .sc (.int .i64 b.Prio), .sl 0 [] true, .sc (.int .i64 b.Idle), .sc (.int .i64 b.Hard), .sc (.int .i64 b.Owner), .sc (.int .i64 b.Hits), .sc (.int .i64 b.Quiet), .sc (.int .i64 b.Age)], .box 34 [.arr .u64 12 a.Match.Value, .arr .u64 12 a.Match.Care, .sc (.int .i64 a.Prio), .sl 0 [] true, .sc (.int .i64 a.Idle), .sc (.int .i64 a.Hard), .sc (.int .i64 a.Owner), .sc (.int .i64 a.Hits), .sc (.int .i64 a.Quiet), .sc (.int .i64 a.Age)]]) (by kernel_rfl) (fun z => [(5, .ptr 1 0 none), (6, .ptr 0 0 none), (20, .sc (.bool (z && (rule_Key ({ a with Acts := [] } : Rule) ({ b with Acts := [] } : Rule)))))]) ?J8 (fun hb J => ?ht8) (fun hb J => ?hf8)
    case ht8 =>
      refine DK.seg hG 2 [5, 6, 16, 17, 18] (t' := [(5, .ptr 1 0 none), (6, .ptr 0 0 none), (16, .sc (.bool true)), (17, .agg [.arr .u64 12 a.Match.Value, .arr .u64 12 a.Match.Care, .sc (.int .i64 a.Prio), .sl 0 [] true, .sc (.int .i64 a.Idle), .sc (.int .i64 a.Hard), .sc (.int .i64 a.Owner), .sc (.int .i64 a.Hits), .sc (.int .i64 a.Quiet), .sc (.int .i64 a.Age)]), (18, .agg [.arr .u64 12 b.Match.Value, .arr .u64 12 b.Match.Care, .sc (.int .i64 b.Prio), .sl 0 [] true, .sc (.int .i64 b.Idle), .sc (.int .i64 b.Hard), .sc (.int .i64 b.Owner), .sc (.int .i64 b.Hits), .sc (.int .i64 b.Quiet), .sc (.int .i64 b.Age)])]) (h' := [.box 34 [.arr .u64 12 b.Match.Value, .arr .u64 12 b.Match.Care, .sc (.int .i64 b.Prio), .sl 0 [] true, .sc (.int .i64 b.Idle), .sc (.int .i64 b.Hard), .sc (.int .i64 b.Owner), .sc (.int .i64 b.Hits), .sc (.int .i64 b.Quiet), .sc (.int .i64 b.Age)], .box 34 [.arr .u64 12 a.Match.Value, .arr .u64 12 a.Match.Care, .sc (.int .i64 a.Prio), .sl 0 [] true, .sc (.int .i64 a.Idle), .sc (.int .i64 a.Hard), .sc (.int .i64 a.Owner), .sc (.int .i64 a.Hits), .sc (.int .i64 a.Quiet), .sc (.int .i64 a.Age)]]) (by kernel_rfl) rfl ?_
      refine DK.op' [5, 6, 16, 19] (t' := [(5, .ptr 1 0 none), (6, .ptr 0 0 none), (16, .sc (.bool true)), (19, .sc (.bool (rule_Key ({ a with Acts := [] } : Rule) ({ b with Acts := [] } : Rule))))]) (h' := [.box 34 [.arr .u64 12 b.Match.Value, .arr .u64 12 b.Match.Care, .sc (.int .i64 b.Prio), .sl 0 [] true, .sc (.int .i64 b.Idle), .sc (.int .i64 b.Hard), .sc (.int .i64 b.Owner), .sc (.int .i64 b.Hits), .sc (.int .i64 b.Quiet), .sc (.int .i64 b.Age)], .box 34 [.arr .u64 12 a.Match.Value, .arr .u64 12 a.Match.Care, .sc (.int .i64 a.Prio), .sl 0 [] true, .sc (.int .i64 a.Idle), .sc (.int .i64 a.Hard), .sc (.int .i64 a.Owner), .sc (.int .i64 a.Hits), .sc (.int .i64 a.Quiet), .sc (.int .i64 a.Age)]]) (LSpec.callP' (ACalls.wk (aas := [.agg [.arr .u64 12 a.Match.Value, .arr .u64 12 a.Match.Care, .sc (.int .i64 a.Prio), .sl 0 [] true, .sc (.int .i64 a.Idle), .sc (.int .i64 a.Hard), .sc (.int .i64 a.Owner), .sc (.int .i64 a.Hits), .sc (.int .i64 a.Quiet), .sc (.int .i64 a.Age)], .agg [.arr .u64 12 b.Match.Value, .arr .u64 12 b.Match.Care, .sc (.int .i64 b.Prio), .sl 0 [] true, .sc (.int .i64 b.Idle), .sc (.int .i64 b.Hard), .sc (.int .i64 b.Owner), .sc (.int .i64 b.Hits), .sc (.int .i64 b.Quiet), .sc (.int .i64 b.Age)]]) (Wks.cons (WkV.agg (WkL.cons (Wk1.refl _) (WkL.cons (Wk1.refl _) (WkL.cons (Wk1.refl _) (WkL.cons (Wk1.nil 42 false) (WkL.cons (Wk1.refl _) (WkL.cons (Wk1.refl _) (WkL.cons (Wk1.refl _) (WkL.cons (Wk1.refl _) (WkL.cons (Wk1.refl _) (WkL.cons (Wk1.refl _) WkL.nil))))))))))) trivial trivial (Wks.cons (WkV.agg (WkL.cons (Wk1.refl _) (WkL.cons (Wk1.refl _) (WkL.cons (Wk1.refl _) (WkL.cons (Wk1.nil 42 false) (WkL.cons (Wk1.refl _) (WkL.cons (Wk1.refl _) (WkL.cons (Wk1.refl _) (WkL.cons (Wk1.refl _) (WkL.cons (Wk1.refl _) (WkL.cons (Wk1.refl _) WkL.nil))))))))))) trivial trivial Wks.nil)) (rule_Key_calls ({ a with Acts := [] } : Rule) ({ b with Acts := [] } : Rule))) (by kernel_rfl)) (by kernel_rfl) rfl (by kernel_rfl) rfl ?_
      exact DK.seg hG 1 [5, 6, 20] (by kernel_rfl) rfl J
    case hf8 =>
      exact DK.seg hG 4 [5, 6, 20] (by kernel_rfl) rfl J
    refine DK.seg hG 1 [5, 6, 21] (t' := [(5, .ptr 1 0 none), (6, .ptr 0 0 none), (21, .sc (.bool ((act_Same a.Acts b.Acts) && (rule_Key ({ a with Acts := [] } : Rule) ({ b with Acts := [] } : Rule)))))]) (h' := [.box 34 [.arr .u64 12 b.Match.Value, .arr .u64 12 b.Match.Care, .sc (.int .i64 b.Prio), .sl 0 [] true, .sc (.int .i64 b.Idle), .sc (.int .i64 b.Hard), .sc (.int .i64 b.Owner), .sc (.int .i64 b.Hits), .sc (.int .i64 b.Quiet), .sc (.int .i64 b.Age)], .box 34 [.arr .u64 12 a.Match.Value, .arr .u64 12 a.Match.Care, .sc (.int .i64 a.Prio), .sl 0 [] true, .sc (.int .i64 a.Idle), .sc (.int .i64 a.Hard), .sc (.int .i64 a.Owner), .sc (.int .i64 a.Hits), .sc (.int .i64 a.Quiet), .sc (.int .i64 a.Age)]]) (by kernel_rfl) rfl ?_
    refine DK.mux 21 ((act_Same a.Acts b.Acts) && (rule_Key ({ a with Acts := [] } : Rule) ({ b with Acts := [] } : Rule))) (j := 17) (h' := [.box 34 [.arr .u64 12 b.Match.Value, .arr .u64 12 b.Match.Care, .sc (.int .i64 b.Prio), .sl 0 [] true, .sc (.int .i64 b.Idle), .sc (.int .i64 b.Hard), .sc (.int .i64 b.Owner), .sc (.int .i64 b.Hits), .sc (.int .i64 b.Quiet), .sc (.int .i64 b.Age)], .box 34 [.arr .u64 12 a.Match.Value, .arr .u64 12 a.Match.Care, .sc (.int .i64 a.Prio), .sl 0 [] true, .sc (.int .i64 a.Idle), .sc (.int .i64 a.Hard), .sc (.int .i64 a.Owner), .sc (.int .i64 a.Hits), .sc (.int .i64 a.Quiet), .sc (.int .i64 a.Age)]]) (by kernel_rfl) (fun z => [(5, .ptr 1 0 none), (6, .ptr 0 0 none), (27, .sc (.bool (z && (a.Idle == b.Idle))))]) ?J9 (fun hb J => ?ht9) (fun hb J => ?hf9)
    case ht9 =>
      exact DK.seg hG 6 [5, 6, 27] (by kernel_rfl) rfl J
    case hf9 =>
      exact DK.seg hG 6 [5, 6, 27] (by kernel_rfl) rfl J
    refine DK.seg hG 1 [5, 6, 28] (t' := [(5, .ptr 1 0 none), (6, .ptr 0 0 none), (28, .sc (.bool (((act_Same a.Acts b.Acts) && (rule_Key ({ a with Acts := [] } : Rule) ({ b with Acts := [] } : Rule))) && (a.Idle == b.Idle))))]) (h' := [.box 34 [.arr .u64 12 b.Match.Value, .arr .u64 12 b.Match.Care, .sc (.int .i64 b.Prio), .sl 0 [] true, .sc (.int .i64 b.Idle), .sc (.int .i64 b.Hard), .sc (.int .i64 b.Owner), .sc (.int .i64 b.Hits), .sc (.int .i64 b.Quiet), .sc (.int .i64 b.Age)], .box 34 [.arr .u64 12 a.Match.Value, .arr .u64 12 a.Match.Care, .sc (.int .i64 a.Prio), .sl 0 [] true, .sc (.int .i64 a.Idle), .sc (.int .i64 a.Hard), .sc (.int .i64 a.Owner), .sc (.int .i64 a.Hits), .sc (.int .i64 a.Quiet), .sc (.int .i64 a.Age)]]) (by kernel_rfl) rfl ?_
    refine DK.mux 28 (((act_Same a.Acts b.Acts) && (rule_Key ({ a with Acts := [] } : Rule) ({ b with Acts := [] } : Rule))) && (a.Idle == b.Idle)) (j := 24) (h' := [.box 34 [.arr .u64 12 b.Match.Value, .arr .u64 12 b.Match.Care, .sc (.int .i64 b.Prio), .sl 0 [] true, .sc (.int .i64 b.Idle), .sc (.int .i64 b.Hard), .sc (.int .i64 b.Owner), .sc (.int .i64 b.Hits), .sc (.int .i64 b.Quiet), .sc (.int .i64 b.Age)], .box 34 [.arr .u64 12 a.Match.Value, .arr .u64 12 a.Match.Care, .sc (.int .i64 a.Prio), .sl 0 [] true, .sc (.int .i64 a.Idle), .sc (.int .i64 a.Hard), .sc (.int .i64 a.Owner), .sc (.int .i64 a.Hits), .sc (.int .i64 a.Quiet), .sc (.int .i64 a.Age)]]) (by kernel_rfl) (fun z => [(5, .ptr 1 0 none), (6, .ptr 0 0 none), (34, .sc (.bool (z && (a.Hard == b.Hard))))]) ?J10 (fun hb J => ?ht10) (fun hb J => ?hf10)
    case ht10 =>
      exact DK.seg hG 6 [5, 6, 34] (by kernel_rfl) rfl J
    case hf10 =>
      exact DK.seg hG 6 [5, 6, 34] (by kernel_rfl) rfl J
    refine DK.seg hG 1 [5, 6, 35] (t' := [(5, .ptr 1 0 none), (6, .ptr 0 0 none), (35, .sc (.bool ((((act_Same a.Acts b.Acts) && (rule_Key ({ a with Acts := [] } : Rule) ({ b with Acts := [] } : Rule))) && (a.Idle == b.Idle)) && (a.Hard == b.Hard))))]) (h' := [.box 34 [.arr .u64 12 b.Match.Value, .arr .u64 12 b.Match.Care, .sc (.int .i64 b.Prio), .sl 0 [] true, .sc (.int .i64 b.Idle), .sc (.int .i64 b.Hard), .sc (.int .i64 b.Owner), .sc (.int .i64 b.Hits), .sc (.int .i64 b.Quiet), .sc (.int .i64 b.Age)], .box 34 [.arr .u64 12 a.Match.Value, .arr .u64 12 a.Match.Care, .sc (.int .i64 a.Prio), .sl 0 [] true, .sc (.int .i64 a.Idle), .sc (.int .i64 a.Hard), .sc (.int .i64 a.Owner), .sc (.int .i64 a.Hits), .sc (.int .i64 a.Quiet), .sc (.int .i64 a.Age)]]) (by kernel_rfl) rfl ?_
    refine DK.mux 35 ((((act_Same a.Acts b.Acts) && (rule_Key ({ a with Acts := [] } : Rule) ({ b with Acts := [] } : Rule))) && (a.Idle == b.Idle)) && (a.Hard == b.Hard)) (j := 31) (h' := [.box 34 [.arr .u64 12 b.Match.Value, .arr .u64 12 b.Match.Care, .sc (.int .i64 b.Prio), .sl 0 [] true, .sc (.int .i64 b.Idle), .sc (.int .i64 b.Hard), .sc (.int .i64 b.Owner), .sc (.int .i64 b.Hits), .sc (.int .i64 b.Quiet), .sc (.int .i64 b.Age)], .box 34 [.arr .u64 12 a.Match.Value, .arr .u64 12 a.Match.Care, .sc (.int .i64 a.Prio), .sl 0 [] true, .sc (.int .i64 a.Idle), .sc (.int .i64 a.Hard), .sc (.int .i64 a.Owner), .sc (.int .i64 a.Hits), .sc (.int .i64 a.Quiet), .sc (.int .i64 a.Age)]]) (by kernel_rfl) (fun z => [(5, .ptr 1 0 none), (6, .ptr 0 0 none), (41, .sc (.bool (z && (a.Owner == b.Owner))))]) ?J11 (fun hb J => ?ht11) (fun hb J => ?hf11)
    case ht11 =>
      exact DK.seg hG 6 [5, 6, 41] (by kernel_rfl) rfl J
    case hf11 =>
      exact DK.seg hG 6 [5, 6, 41] (by kernel_rfl) rfl J
    refine DK.seg hG 1 [5, 6, 42] (t' := [(5, .ptr 1 0 none), (6, .ptr 0 0 none), (42, .sc (.bool (((((act_Same a.Acts b.Acts) && (rule_Key ({ a with Acts := [] } : Rule) ({ b with Acts := [] } : Rule))) && (a.Idle == b.Idle)) && (a.Hard == b.Hard)) && (a.Owner == b.Owner))))]) (h' := [.box 34 [.arr .u64 12 b.Match.Value, .arr .u64 12 b.Match.Care, .sc (.int .i64 b.Prio), .sl 0 [] true, .sc (.int .i64 b.Idle), .sc (.int .i64 b.Hard), .sc (.int .i64 b.Owner), .sc (.int .i64 b.Hits), .sc (.int .i64 b.Quiet), .sc (.int .i64 b.Age)], .box 34 [.arr .u64 12 a.Match.Value, .arr .u64 12 a.Match.Care, .sc (.int .i64 a.Prio), .sl 0 [] true, .sc (.int .i64 a.Idle), .sc (.int .i64 a.Hard), .sc (.int .i64 a.Owner), .sc (.int .i64 a.Hits), .sc (.int .i64 a.Quiet), .sc (.int .i64 a.Age)]]) (by kernel_rfl) rfl ?_
    refine DK.mux 42 (((((act_Same a.Acts b.Acts) && (rule_Key ({ a with Acts := [] } : Rule) ({ b with Acts := [] } : Rule))) && (a.Idle == b.Idle)) && (a.Hard == b.Hard)) && (a.Owner == b.Owner)) (j := 38) (h' := [.box 34 [.arr .u64 12 b.Match.Value, .arr .u64 12 b.Match.Care, .sc (.int .i64 b.Prio), .sl 0 [] true, .sc (.int .i64 b.Idle), .sc (.int .i64 b.Hard), .sc (.int .i64 b.Owner), .sc (.int .i64 b.Hits), .sc (.int .i64 b.Quiet), .sc (.int .i64 b.Age)], .box 34 [.arr .u64 12 a.Match.Value, .arr .u64 12 a.Match.Care, .sc (.int .i64 a.Prio), .sl 0 [] true, .sc (.int .i64 a.Idle), .sc (.int .i64 a.Hard), .sc (.int .i64 a.Owner), .sc (.int .i64 a.Hits), .sc (.int .i64 a.Quiet), .sc (.int .i64 a.Age)]]) (by kernel_rfl) (fun z => [(5, .ptr 1 0 none), (6, .ptr 0 0 none), (48, .sc (.bool (z && (a.Hits == b.Hits))))]) ?J12 (fun hb J => ?ht12) (fun hb J => ?hf12)
    case ht12 =>
      exact DK.seg hG 6 [5, 6, 48] (by kernel_rfl) rfl J
    case hf12 =>
      exact DK.seg hG 6 [5, 6, 48] (by kernel_rfl) rfl J
    refine DK.seg hG 1 [5, 6, 49] (t' := [(5, .ptr 1 0 none), (6, .ptr 0 0 none), (49, .sc (.bool ((((((act_Same a.Acts b.Acts) && (rule_Key ({ a with Acts := [] } : Rule) ({ b with Acts := [] } : Rule))) && (a.Idle == b.Idle)) && (a.Hard == b.Hard)) && (a.Owner == b.Owner)) && (a.Hits == b.Hits))))]) (h' := [.box 34 [.arr .u64 12 b.Match.Value, .arr .u64 12 b.Match.Care, .sc (.int .i64 b.Prio), .sl 0 [] true, .sc (.int .i64 b.Idle), .sc (.int .i64 b.Hard), .sc (.int .i64 b.Owner), .sc (.int .i64 b.Hits), .sc (.int .i64 b.Quiet), .sc (.int .i64 b.Age)], .box 34 [.arr .u64 12 a.Match.Value, .arr .u64 12 a.Match.Care, .sc (.int .i64 a.Prio), .sl 0 [] true, .sc (.int .i64 a.Idle), .sc (.int .i64 a.Hard), .sc (.int .i64 a.Owner), .sc (.int .i64 a.Hits), .sc (.int .i64 a.Quiet), .sc (.int .i64 a.Age)]]) (by kernel_rfl) rfl ?_
    refine DK.mux 49 ((((((act_Same a.Acts b.Acts) && (rule_Key ({ a with Acts := [] } : Rule) ({ b with Acts := [] } : Rule))) && (a.Idle == b.Idle)) && (a.Hard == b.Hard)) && (a.Owner == b.Owner)) && (a.Hits == b.Hits)) (j := 45) (h' := [.box 34 [.arr .u64 12 b.Match.Value, .arr .u64 12 b.Match.Care, .sc (.int .i64 b.Prio), .sl 0 [] true, .sc (.int .i64 b.Idle), .sc (.int .i64 b.Hard), .sc (.int .i64 b.Owner), .sc (.int .i64 b.Hits), .sc (.int .i64 b.Quiet), .sc (.int .i64 b.Age)], .box 34 [.arr .u64 12 a.Match.Value, .arr .u64 12 a.Match.Care, .sc (.int .i64 a.Prio), .sl 0 [] true, .sc (.int .i64 a.Idle), .sc (.int .i64 a.Hard), .sc (.int .i64 a.Owner), .sc (.int .i64 a.Hits), .sc (.int .i64 a.Quiet), .sc (.int .i64 a.Age)]]) (by kernel_rfl) (fun z => [(5, .ptr 1 0 none), (6, .ptr 0 0 none), (55, .sc (.bool (z && (a.Quiet == b.Quiet))))]) ?J13 (fun hb J => ?ht13) (fun hb J => ?hf13)
    case ht13 =>
      exact DK.seg hG 6 [5, 6, 55] (by kernel_rfl) rfl J
    case hf13 =>
      exact DK.seg hG 6 [5, 6, 55] (by kernel_rfl) rfl J
    refine DK.seg hG 1 [5, 6, 56] (t' := [(5, .ptr 1 0 none), (6, .ptr 0 0 none), (56, .sc (.bool (((((((act_Same a.Acts b.Acts) && (rule_Key ({ a with Acts := [] } : Rule) ({ b with Acts := [] } : Rule))) && (a.Idle == b.Idle)) && (a.Hard == b.Hard)) && (a.Owner == b.Owner)) && (a.Hits == b.Hits)) && (a.Quiet == b.Quiet))))]) (h' := [.box 34 [.arr .u64 12 b.Match.Value, .arr .u64 12 b.Match.Care, .sc (.int .i64 b.Prio), .sl 0 [] true, .sc (.int .i64 b.Idle), .sc (.int .i64 b.Hard), .sc (.int .i64 b.Owner), .sc (.int .i64 b.Hits), .sc (.int .i64 b.Quiet), .sc (.int .i64 b.Age)], .box 34 [.arr .u64 12 a.Match.Value, .arr .u64 12 a.Match.Care, .sc (.int .i64 a.Prio), .sl 0 [] true, .sc (.int .i64 a.Idle), .sc (.int .i64 a.Hard), .sc (.int .i64 a.Owner), .sc (.int .i64 a.Hits), .sc (.int .i64 a.Quiet), .sc (.int .i64 a.Age)]]) (by kernel_rfl) rfl ?_
    refine DK.mux 56 (((((((act_Same a.Acts b.Acts) && (rule_Key ({ a with Acts := [] } : Rule) ({ b with Acts := [] } : Rule))) && (a.Idle == b.Idle)) && (a.Hard == b.Hard)) && (a.Owner == b.Owner)) && (a.Hits == b.Hits)) && (a.Quiet == b.Quiet)) (j := 52) (h' := [.box 34 [.arr .u64 12 b.Match.Value, .arr .u64 12 b.Match.Care, .sc (.int .i64 b.Prio), .sl 0 [] true, .sc (.int .i64 b.Idle), .sc (.int .i64 b.Hard), .sc (.int .i64 b.Owner), .sc (.int .i64 b.Hits), .sc (.int .i64 b.Quiet), .sc (.int .i64 b.Age)], .box 34 [.arr .u64 12 a.Match.Value, .arr .u64 12 a.Match.Care, .sc (.int .i64 a.Prio), .sl 0 [] true, .sc (.int .i64 a.Idle), .sc (.int .i64 a.Hard), .sc (.int .i64 a.Owner), .sc (.int .i64 a.Hits), .sc (.int .i64 a.Quiet), .sc (.int .i64 a.Age)]]) (by kernel_rfl) (fun z => [(62, .sc (.bool (z && (a.Age == b.Age))))]) ?J14 (fun hb J => ?ht14) (fun hb J => ?hf14)
    case ht14 =>
      exact DK.seg hG 6 [62] (by kernel_rfl) rfl J
    case hf14 =>
      exact DK.seg hG 6 [62] (by kernel_rfl) rfl J
    refine DK.seg hG 1 [4] (t' := [(4, .sc (.bool ((((((((act_Same a.Acts b.Acts) && (rule_Key ({ a with Acts := [] } : Rule) ({ b with Acts := [] } : Rule))) && (a.Idle == b.Idle)) && (a.Hard == b.Hard)) && (a.Owner == b.Owner)) && (a.Hits == b.Hits)) && (a.Quiet == b.Quiet)) && (a.Age == b.Age))))]) (h' := [.box 34 [.arr .u64 12 b.Match.Value, .arr .u64 12 b.Match.Care, .sc (.int .i64 b.Prio), .sl 0 [] true, .sc (.int .i64 b.Idle), .sc (.int .i64 b.Hard), .sc (.int .i64 b.Owner), .sc (.int .i64 b.Hits), .sc (.int .i64 b.Quiet), .sc (.int .i64 b.Age)], .box 34 [.arr .u64 12 a.Match.Value, .arr .u64 12 a.Match.Care, .sc (.int .i64 a.Prio), .sl 0 [] true, .sc (.int .i64 a.Idle), .sc (.int .i64 a.Hard), .sc (.int .i64 a.Owner), .sc (.int .i64 a.Hits), .sc (.int .i64 a.Quiet), .sc (.int .i64 a.Age)]]) (by kernel_rfl) rfl ?_
    refine DK.done (by kernel_rfl) (by kernel_rfl) ?_
    subst H
    exact AR.ret0 (fn := Try.f46) hG Try.func46 (by kernel_rfl) hc0 (r0 := .sc (.bool ((((((((act_Same a.Acts b.Acts) && (rule_Key ({ a with Acts := [] } : Rule) ({ b with Acts := [] } : Rule))) && (a.Idle == b.Idle)) && (a.Hard == b.Hard)) && (a.Owner == b.Owner)) && (a.Hits == b.Hits)) && (a.Quiet == b.Quiet)) && (a.Age == b.Age)))) (by kernel_rfl) (WkV.refl _)
theorem rule_Equal_calls (a : Rule) (b : Rule) : ACalls Try.prog tab.S 46 [Rule.av a, Rule.av b] [] (.sc (.bool (rule_Equal a b))) [] := rule_Equal_walk a b _ rfl

theorem rule_Equal_eq (a b : Rule) : rule_Equal a b = (a == b) := by
  obtain ⟨⟨v, c⟩, p, ac, i1, h1, o1, h2, q1, g1⟩ := a
  obtain ⟨⟨v', c'⟩, p', ac', i1', h1', o1', h2', q1', g1'⟩ := b
  rw [rule_Equal, act_Same, rule_Key, Bool.eq_iff_iff]
  simp only [Bool.and_eq_true, beq_iff_eq, Rule.mk.injEq, Cube.mk.injEq]
  constructor
  · rintro ⟨⟨⟨⟨⟨⟨⟨a1, ⟨a2, a3⟩, a4⟩, a5⟩, a6⟩, a7⟩, a8⟩, a9⟩, a10⟩
    exact ⟨⟨a2, a3⟩, a4, a1, a5, a6, a7, a8, a9, a10⟩
  · rintro ⟨⟨a2, a3⟩, a4, a1, a5, a6, a7, a8, a9, a10⟩
    exact ⟨⟨⟨⟨⟨⟨⟨a1, ⟨a2, a3⟩, a4⟩, a5⟩, a6⟩, a7⟩, a8⟩, a9⟩, a10⟩

/-! ### slices.EqualFunc: function 45 -/
noncomputable def slices_EqualFunc__api_Rule_F : Go.Sh.Fn := ⟨45, bodyOf Try.f45, 32⟩
def slices_EqualFunc__api_Rule_k2 : List Kd := [.pure, .read, .read, .pure, .pure]
def slices_EqualFunc__api_Rule_k1 : List Kd := [.pure, .pure, .pure, .pure, .loud, .loud]
def slices_EqualFunc__api_Rule_k0 : List Kd := [.pure, .pure, .pure, .loud, .pure, .loud]
def slices_EqualFunc__api_Rule_l0s (s2 : List Rule) (eq : Rule → Rule → Bool) : List Rule → Nat → Option (Sum (Unit) (Bool))
  | [], t17 =>
    some (.inl ())
  | x :: rest, t17 =>
    (ixO s2 ((t17 : Nat) : Int)).bind fun x1 =>
    (bif (!(eq x x1)) then
      some (.inr false)
    else
      slices_EqualFunc__api_Rule_l0s s2 eq rest (t17 + 1) )
theorem slices_EqualFunc__api_Rule_l0_walk (s1 : List Rule) (s2 : List Rule) (F_eq : FuncId) (C_eq : List AV) (eq : Rule → Rule → Bool) (P_eq : plainL C_eq = true) (O_eq : C_eq.all oneA = true) (H_eq : ∀ (y0 : Rule) (y1 : Rule), ACalls Try.prog tab.S F_eq ([Rule.av y0, Rule.av y1] ++ C_eq) [] (.sc (.bool (eq y0 y1))) []) (f_s1 : Bool) (f_s2 : Bool) (r : Bool) (c0 : Ctx) (hc0 : c0.m.length = 0) (res : Sum (Unit) (Bool)) (J : ∀ w : Unit, res = .inl w → AR Try.prog tab slices_EqualFunc__api_Rule_F c0 (Rp tab.S c0 (.sc (.bool r)) []) [.code [1, 1, 1]] [] []) (Jr : ∀ w, res = .inr w → w = r) :
    ∀ (rest : List Rule) (t17 : Nat) (hd : s1.drop t17 = rest) (H : slices_EqualFunc__api_Rule_l0s s2 eq rest t17 = some res), AR Try.prog tab slices_EqualFunc__api_Rule_F c0 (Rp tab.S c0 (.sc (.bool r)) []) [.code [1, 1, 0, 1, 0, 0], .loop [1, 1, 0, 1, 0], .blk 0, .code [1, 1, 1]] [(1, .sl 34 (List.map Rule.av s2) f_s2), (2, .fn F_eq C_eq), (15, .sl 34 (List.map Rule.av s1) f_s1), (16, .sc (.int .i64 (((List.map Rule.av s1).length : Nat) : Int))), (17, .sc (.int .i64 ((t17 : Nat) : Int)))] [] := by
  have hG := tab_ok
  have hm := mixed
  intro rest
  induction rest with
  | nil =>
    intro t17 hd  H
    rw [slices_EqualFunc__api_Rule_l0s] at H
    refine AR.facts 15 rfl fun hf => ?_
    have hlen : s1.length ≤ 9223372036854775807 := by have hq := len_ok hf.2.1; rw [List.length_map] at hq; exact hq
    have hge : s1.length ≤ t17 := List.drop_eq_nil_iff.1 hd
    have hc : (decide (((t17 : Nat) : Int) < (((List.map Rule.av s1).length : Nat) : Int))) = false := by rw [List.length_map]; exact decide_eq_false (by omega)
    refine AR.seg hG hm 3 [1, 2, 15, 16, 17, 18] (k' := [.code [1, 1, 0, 1, 0, 0, 1, 0], .code [1, 1, 0, 1, 0, 0, 1, 1], .loop [1, 1, 0, 1, 0], .blk 0, .code [1, 1, 1]]) (t' := [(1, .sl 34 (List.map Rule.av s2) f_s2), (2, .fn F_eq C_eq), (15, .sl 34 (List.map Rule.av s1) f_s1), (16, .sc (.int .i64 (((List.map Rule.av s1).length : Nat) : Int))), (17, .sc (.int .i64 ((t17 : Nat) : Int))), (18, .sc (.bool (decide (((t17 : Nat) : Int) < (((List.map Rule.av s1).length : Nat) : Int)))))]) (h' := []) (by kernel_rfl) ?_
    refine AR.cond (.tmp 18) (decide (((t17 : Nat) : Int) < (((List.map Rule.av s1).length : Nat) : Int))) (by kernel_rfl) (by kernel_rfl) (fun hb => ?ht8) (fun hb => ?hf8)
    case ht8 => exact absurd (hb.symm.trans hc) (by decide)
    case hf8 =>
      refine AR.seg hG hm 1 [] (k' := [.code [1, 1, 1]]) (t' := []) (h' := []) (by kernel_rfl) ?_
      refine AR.keep [] (t' := []) (by kernel_rfl) ?_
      exact J () (Option.some.inj H).symm
  | cons x rest ih =>
    intro t17 hd  H
    rw [slices_EqualFunc__api_Rule_l0s] at H
    refine AR.facts 15 rfl fun hf => ?_
    have hlen : s1.length ≤ 9223372036854775807 := by have hq := len_ok hf.2.1; rw [List.length_map] at hq; exact hq
    obtain ⟨hlt, hv_t17, hd2⟩ := drop_cons hd
    have hc : (decide (((t17 : Nat) : Int) < (((List.map Rule.av s1).length : Nat) : Int))) = true := by rw [List.length_map]; exact decide_eq_true (by omega)
    have hw : IntKind.i64.wrap (((t17 : Nat) : Int) + 1) = ((t17 + 1 : Nat) : Int) := wrapI_succ (by omega)
    refine AR.seg hG hm 3 [1, 2, 15, 16, 17, 18] (k' := [.code [1, 1, 0, 1, 0, 0, 1, 0], .code [1, 1, 0, 1, 0, 0, 1, 1], .loop [1, 1, 0, 1, 0], .blk 0, .code [1, 1, 1]]) (t' := [(1, .sl 34 (List.map Rule.av s2) f_s2), (2, .fn F_eq C_eq), (15, .sl 34 (List.map Rule.av s1) f_s1), (16, .sc (.int .i64 (((List.map Rule.av s1).length : Nat) : Int))), (17, .sc (.int .i64 ((t17 : Nat) : Int))), (18, .sc (.bool (decide (((t17 : Nat) : Int) < (((List.map Rule.av s1).length : Nat) : Int)))))]) (h' := []) (by kernel_rfl) ?_
    refine AR.cond (.tmp 18) (decide (((t17 : Nat) : Int) < (((List.map Rule.av s1).length : Nat) : Int))) (by kernel_rfl) (by kernel_rfl) (fun hb => ?ht9) (fun hb => ?hf9)
    case ht9 =>
      refine AR.seg hG hm 4 [1, 2, 15, 16, 17] (k' := [.code [1, 1, 0, 1, 0, 0, 1, 1, 0, 0, 0], .code [1, 1, 0, 1, 0, 0, 1, 1, 0, 0, 1], .blk 1, .code [1, 1, 0, 1, 0, 0, 1, 1, 1], .loop [1, 1, 0, 1, 0], .blk 0, .code [1, 1, 1]]) (t' := [(1, .sl 34 (List.map Rule.av s2) f_s2), (2, .fn F_eq C_eq), (15, .sl 34 (List.map Rule.av s1) f_s1), (16, .sc (.int .i64 (((List.map Rule.av s1).length : Nat) : Int))), (17, .sc (.int .i64 ((t17 : Nat) : Int)))]) (h' := []) (by kernel_rfl) ?_
      refine AR.reg hm slices_EqualFunc__api_Rule_k0 (by kernel_rfl) ?_
      refine DK.seg hG 1 [1, 2, 15, 16, 17, 19] (t' := [(1, .sl 34 (List.map Rule.av s2) f_s2), (2, .fn F_eq C_eq), (15, .sl 34 (List.map Rule.av s1) f_s1), (16, .sc (.int .i64 (((List.map Rule.av s1).length : Nat) : Int))), (17, .sc (.int .i64 ((t17 : Nat) : Int))), (19, .sc (.int .i64 ((t17 : Nat) : Int)))]) (h' := []) (by kernel_rfl) rfl ?_
      refine DK.op' [1, 2, 15, 16, 17, 19, 20] (t' := [(1, .sl 34 (List.map Rule.av s2) f_s2), (2, .fn F_eq C_eq), (15, .sl 34 (List.map Rule.av s1) f_s1), (16, .sc (.int .i64 (((List.map Rule.av s1).length : Nat) : Int))), (17, .sc (.int .i64 ((t17 : Nat) : Int))), (19, .sc (.int .i64 ((t17 : Nat) : Int))), (20, .ep [.arr .u64 12 x.Match.Value, .arr .u64 12 x.Match.Care, .sc (.int .i64 x.Prio), .sl 42 (List.map Act.av x.Acts) false, .sc (.int .i64 x.Idle), .sc (.int .i64 x.Hard), .sc (.int .i64 x.Owner), .sc (.int .i64 x.Hits), .sc (.int .i64 x.Quiet), .sc (.int .i64 x.Age)] 0 none)]) (h' := []) (LSpec.index' (r := Rule.av x) (fs := [.arr .u64 12 x.Match.Value, .arr .u64 12 x.Match.Care, .sc (.int .i64 x.Prio), .sl 42 (List.map Act.av x.Acts) false, .sc (.int .i64 x.Idle), .sc (.int .i64 x.Hard), .sc (.int .i64 x.Owner), .sc (.int .i64 x.Hits), .sc (.int .i64 x.Quiet), .sc (.int .i64 x.Age)]) hG (rows := List.map Rule.av s1) (j := ((t17 : Nat) : Int)) (by kernel_rfl) (ixO_map hv_t17 _) (by kernel_rfl)) (by kernel_rfl) rfl (by kernel_rfl) rfl ?_
      refine DK.seg hG 4 [1, 2, 7, 8, 15, 16, 17] (t' := [(1, .sl 34 (List.map Rule.av s2) f_s2), (2, .fn F_eq C_eq), (7, .sc (.int .i64 ((t17 : Nat) : Int))), (8, .ptr 0 0 none), (15, .sl 34 (List.map Rule.av s1) f_s1), (16, .sc (.int .i64 (((List.map Rule.av s1).length : Nat) : Int))), (17, .sc (.int .i64 ((t17 : Nat) : Int)))]) (h' := [.box 34 [.arr .u64 12 x.Match.Value, .arr .u64 12 x.Match.Care, .sc (.int .i64 x.Prio), .sl 42 (List.map Act.av x.Acts) false, .sc (.int .i64 x.Idle), .sc (.int .i64 x.Hard), .sc (.int .i64 x.Owner), .sc (.int .i64 x.Hits), .sc (.int .i64 x.Quiet), .sc (.int .i64 x.Age)]]) (by kernel_rfl) rfl ?_
      refine DK.done (by kernel_rfl) (by kernel_rfl) ?_
      refine AR.seg hG hm 1 [1, 2, 7, 8, 15, 16, 17] (k' := [.code [1, 1, 0, 1, 0, 0, 1, 1, 0, 0, 1, 0], .code [1, 1, 0, 1, 0, 0, 1, 1, 0, 0, 1, 1], .blk 1, .code [1, 1, 0, 1, 0, 0, 1, 1, 1], .loop [1, 1, 0, 1, 0], .blk 0, .code [1, 1, 1]]) (t' := [(1, .sl 34 (List.map Rule.av s2) f_s2), (2, .fn F_eq C_eq), (7, .sc (.int .i64 ((t17 : Nat) : Int))), (8, .ptr 0 0 none), (15, .sl 34 (List.map Rule.av s1) f_s1), (16, .sc (.int .i64 (((List.map Rule.av s1).length : Nat) : Int))), (17, .sc (.int .i64 ((t17 : Nat) : Int)))]) (h' := [.box 34 [.arr .u64 12 x.Match.Value, .arr .u64 12 x.Match.Care, .sc (.int .i64 x.Prio), .sl 42 (List.map Act.av x.Acts) false, .sc (.int .i64 x.Idle), .sc (.int .i64 x.Hard), .sc (.int .i64 x.Owner), .sc (.int .i64 x.Hits), .sc (.int .i64 x.Quiet), .sc (.int .i64 x.Age)]]) (by kernel_rfl) ?_
      refine AR.reg hm slices_EqualFunc__api_Rule_k1 (by kernel_rfl) ?_
      refine DK.seg hG 2 [1, 2, 8, 15, 16, 17, 22, 23] (t' := [(1, .sl 34 (List.map Rule.av s2) f_s2), (2, .fn F_eq C_eq), (8, .ptr 0 0 none), (15, .sl 34 (List.map Rule.av s1) f_s1), (16, .sc (.int .i64 (((List.map Rule.av s1).length : Nat) : Int))), (17, .sc (.int .i64 ((t17 : Nat) : Int))), (22, .sl 34 (List.map Rule.av s2) f_s2), (23, .sc (.int .i64 ((t17 : Nat) : Int)))]) (h' := [.box 34 [.arr .u64 12 x.Match.Value, .arr .u64 12 x.Match.Care, .sc (.int .i64 x.Prio), .sl 42 (List.map Act.av x.Acts) false, .sc (.int .i64 x.Idle), .sc (.int .i64 x.Hard), .sc (.int .i64 x.Owner), .sc (.int .i64 x.Hits), .sc (.int .i64 x.Quiet), .sc (.int .i64 x.Age)]]) (by kernel_rfl) rfl ?_
      obtain ⟨x1, hv, H⟩ := Option.bind_eq_some_iff.1 H
      refine DK.op' [1, 2, 8, 15, 16, 17, 24] (t' := [(1, .sl 34 (List.map Rule.av s2) f_s2), (2, .fn F_eq C_eq), (8, .ptr 0 0 none), (15, .sl 34 (List.map Rule.av s1) f_s1), (16, .sc (.int .i64 (((List.map Rule.av s1).length : Nat) : Int))), (17, .sc (.int .i64 ((t17 : Nat) : Int))), (24, .ep [.arr .u64 12 x1.Match.Value, .arr .u64 12 x1.Match.Care, .sc (.int .i64 x1.Prio), .sl 42 (List.map Act.av x1.Acts) false, .sc (.int .i64 x1.Idle), .sc (.int .i64 x1.Hard), .sc (.int .i64 x1.Owner), .sc (.int .i64 x1.Hits), .sc (.int .i64 x1.Quiet), .sc (.int .i64 x1.Age)] 0 none)]) (h' := [.box 34 [.arr .u64 12 x.Match.Value, .arr .u64 12 x.Match.Care, .sc (.int .i64 x.Prio), .sl 42 (List.map Act.av x.Acts) false, .sc (.int .i64 x.Idle), .sc (.int .i64 x.Hard), .sc (.int .i64 x.Owner), .sc (.int .i64 x.Hits), .sc (.int .i64 x.Quiet), .sc (.int .i64 x.Age)]]) (LSpec.index' (r := Rule.av x1) (fs := [.arr .u64 12 x1.Match.Value, .arr .u64 12 x1.Match.Care, .sc (.int .i64 x1.Prio), .sl 42 (List.map Act.av x1.Acts) false, .sc (.int .i64 x1.Idle), .sc (.int .i64 x1.Hard), .sc (.int .i64 x1.Owner), .sc (.int .i64 x1.Hits), .sc (.int .i64 x1.Quiet), .sc (.int .i64 x1.Age)]) hG (rows := List.map Rule.av s2) (j := ((t17 : Nat) : Int)) (by kernel_rfl) (ixO_map hv _) (by kernel_rfl)) (by kernel_rfl) rfl (by kernel_rfl) rfl ?_
      refine DK.seg hG 3 [1, 2, 8, 9, 15, 16, 17] (t' := [(1, .sl 34 (List.map Rule.av s2) f_s2), (2, .fn F_eq C_eq), (8, .ptr 0 0 none), (9, .ptr 1 0 none), (15, .sl 34 (List.map Rule.av s1) f_s1), (16, .sc (.int .i64 (((List.map Rule.av s1).length : Nat) : Int))), (17, .sc (.int .i64 ((t17 : Nat) : Int)))]) (h' := [.box 34 [.arr .u64 12 x.Match.Value, .arr .u64 12 x.Match.Care, .sc (.int .i64 x.Prio), .sl 42 (List.map Act.av x.Acts) false, .sc (.int .i64 x.Idle), .sc (.int .i64 x.Hard), .sc (.int .i64 x.Owner), .sc (.int .i64 x.Hits), .sc (.int .i64 x.Quiet), .sc (.int .i64 x.Age)], .box 34 [.arr .u64 12 x1.Match.Value, .arr .u64 12 x1.Match.Care, .sc (.int .i64 x1.Prio), .sl 42 (List.map Act.av x1.Acts) false, .sc (.int .i64 x1.Idle), .sc (.int .i64 x1.Hard), .sc (.int .i64 x1.Owner), .sc (.int .i64 x1.Hits), .sc (.int .i64 x1.Quiet), .sc (.int .i64 x1.Age)]]) (by kernel_rfl) rfl ?_
      refine DK.done (by kernel_rfl) (by kernel_rfl) ?_
      refine AR.seg hG hm 1 [1, 2, 8, 9, 15, 16, 17] (k' := [.code [1, 1, 0, 1, 0, 0, 1, 1, 0, 0, 1, 1, 0], .code [1, 1, 0, 1, 0, 0, 1, 1, 0, 0, 1, 1, 1], .blk 1, .code [1, 1, 0, 1, 0, 0, 1, 1, 1], .loop [1, 1, 0, 1, 0], .blk 0, .code [1, 1, 1]]) (t' := [(1, .sl 34 (List.map Rule.av s2) f_s2), (2, .fn F_eq C_eq), (8, .ptr 0 0 none), (9, .ptr 1 0 none), (15, .sl 34 (List.map Rule.av s1) f_s1), (16, .sc (.int .i64 (((List.map Rule.av s1).length : Nat) : Int))), (17, .sc (.int .i64 ((t17 : Nat) : Int)))]) (h' := [.box 34 [.arr .u64 12 x.Match.Value, .arr .u64 12 x.Match.Care, .sc (.int .i64 x.Prio), .sl 42 (List.map Act.av x.Acts) false, .sc (.int .i64 x.Idle), .sc (.int .i64 x.Hard), .sc (.int .i64 x.Owner), .sc (.int .i64 x.Hits), .sc (.int .i64 x.Quiet), .sc (.int .i64 x.Age)], .box 34 [.arr .u64 12 x1.Match.Value, .arr .u64 12 x1.Match.Care, .sc (.int .i64 x1.Prio), .sl 42 (List.map Act.av x1.Acts) false, .sc (.int .i64 x1.Idle), .sc (.int .i64 x1.Hard), .sc (.int .i64 x1.Owner), .sc (.int .i64 x1.Hits), .sc (.int .i64 x1.Quiet), .sc (.int .i64 x1.Age)]]) (by kernel_rfl) ?_
      refine AR.reg hm slices_EqualFunc__api_Rule_k2 (by kernel_rfl) ?_
      refine DK.seg hG 3 [1, 2, 15, 16, 17, 26, 27, 28] (t' := [(1, .sl 34 (List.map Rule.av s2) f_s2), (2, .fn F_eq C_eq), (15, .sl 34 (List.map Rule.av s1) f_s1), (16, .sc (.int .i64 (((List.map Rule.av s1).length : Nat) : Int))), (17, .sc (.int .i64 ((t17 : Nat) : Int))), (26, .fn F_eq C_eq), (27, Rule.av x), (28, Rule.av x1)]) (h' := [.box 34 [.arr .u64 12 x.Match.Value, .arr .u64 12 x.Match.Care, .sc (.int .i64 x.Prio), .sl 42 (List.map Act.av x.Acts) false, .sc (.int .i64 x.Idle), .sc (.int .i64 x.Hard), .sc (.int .i64 x.Owner), .sc (.int .i64 x.Hits), .sc (.int .i64 x.Quiet), .sc (.int .i64 x.Age)], .box 34 [.arr .u64 12 x1.Match.Value, .arr .u64 12 x1.Match.Care, .sc (.int .i64 x1.Prio), .sl 42 (List.map Act.av x1.Acts) false, .sc (.int .i64 x1.Idle), .sc (.int .i64 x1.Hard), .sc (.int .i64 x1.Owner), .sc (.int .i64 x1.Hits), .sc (.int .i64 x1.Quiet), .sc (.int .i64 x1.Age)]]) (by kernel_rfl) rfl ?_
      refine DK.op' [1, 2, 15, 16, 17, 29] (t' := [(1, .sl 34 (List.map Rule.av s2) f_s2), (2, .fn F_eq C_eq), (15, .sl 34 (List.map Rule.av s1) f_s1), (16, .sc (.int .i64 (((List.map Rule.av s1).length : Nat) : Int))), (17, .sc (.int .i64 ((t17 : Nat) : Int))), (29, .sc (.bool (eq x x1)))]) (h' := [.box 34 [.arr .u64 12 x.Match.Value, .arr .u64 12 x.Match.Care, .sc (.int .i64 x.Prio), .sl 42 (List.map Act.av x.Acts) false, .sc (.int .i64 x.Idle), .sc (.int .i64 x.Hard), .sc (.int .i64 x.Owner), .sc (.int .i64 x.Hits), .sc (.int .i64 x.Quiet), .sc (.int .i64 x.Age)], .box 34 [.arr .u64 12 x1.Match.Value, .arr .u64 12 x1.Match.Care, .sc (.int .i64 x1.Prio), .sl 42 (List.map Act.av x1.Acts) false, .sc (.int .i64 x1.Idle), .sc (.int .i64 x1.Hard), .sc (.int .i64 x1.Owner), .sc (.int .i64 x1.Hits), .sc (.int .i64 x1.Quiet), .sc (.int .i64 x1.Age)]]) (LSpec.callFP' (H_eq x x1) (by kernel_rfl) P_eq O_eq) (by kernel_rfl) rfl (by kernel_rfl) rfl ?_
      refine DK.seg hG 1 [1, 2, 15, 16, 17, 30] (t' := [(1, .sl 34 (List.map Rule.av s2) f_s2), (2, .fn F_eq C_eq), (15, .sl 34 (List.map Rule.av s1) f_s1), (16, .sc (.int .i64 (((List.map Rule.av s1).length : Nat) : Int))), (17, .sc (.int .i64 ((t17 : Nat) : Int))), (30, .sc (.bool (!(eq x x1))))]) (h' := [.box 34 [.arr .u64 12 x.Match.Value, .arr .u64 12 x.Match.Care, .sc (.int .i64 x.Prio), .sl 42 (List.map Act.av x.Acts) false, .sc (.int .i64 x.Idle), .sc (.int .i64 x.Hard), .sc (.int .i64 x.Owner), .sc (.int .i64 x.Hits), .sc (.int .i64 x.Quiet), .sc (.int .i64 x.Age)], .box 34 [.arr .u64 12 x1.Match.Value, .arr .u64 12 x1.Match.Care, .sc (.int .i64 x1.Prio), .sl 42 (List.map Act.av x1.Acts) false, .sc (.int .i64 x1.Idle), .sc (.int .i64 x1.Hard), .sc (.int .i64 x1.Owner), .sc (.int .i64 x1.Hits), .sc (.int .i64 x1.Quiet), .sc (.int .i64 x1.Age)]]) (by kernel_rfl) rfl ?_
      refine DK.done (by kernel_rfl) (by kernel_rfl) ?_
      refine AR.cond (.tmp 30) (!(eq x x1)) (by kernel_rfl) (by kernel_rfl) (fun hb => ?ht10) (fun hb => ?hf10)
      case ht10 =>
        replace H := cond_t hb H
        refine AR.seg hG hm 2 [6] (k' := [.code [1, 1, 0, 1, 0, 0, 1, 1, 0, 0, 1, 1, 1, 0, 1], .blk 1, .code [1, 1, 0, 1, 0, 0, 1, 1, 1], .loop [1, 1, 0, 1, 0], .blk 0, .code [1, 1, 1]]) (t' := [(6, .sc (.bool false))]) (h' := [.box 34 [.arr .u64 12 x.Match.Value, .arr .u64 12 x.Match.Care, .sc (.int .i64 x.Prio), .sl 42 (List.map Act.av x.Acts) false, .sc (.int .i64 x.Idle), .sc (.int .i64 x.Hard), .sc (.int .i64 x.Owner), .sc (.int .i64 x.Hits), .sc (.int .i64 x.Quiet), .sc (.int .i64 x.Age)], .box 34 [.arr .u64 12 x1.Match.Value, .arr .u64 12 x1.Match.Care, .sc (.int .i64 x1.Prio), .sl 42 (List.map Act.av x1.Acts) false, .sc (.int .i64 x1.Idle), .sc (.int .i64 x1.Hard), .sc (.int .i64 x1.Owner), .sc (.int .i64 x1.Hits), .sc (.int .i64 x1.Quiet), .sc (.int .i64 x1.Age)]]) (by kernel_rfl) ?_
        obtain rfl := Option.some.inj H
        obtain rfl := Jr _ rfl
        exact AR.ret0 (fn := Try.f45) hG Try.func45 (by kernel_rfl) hc0 (r0 := .sc (.bool false)) (by kernel_rfl) (WkV.refl _)
      case hf10 =>
        replace H := cond_f hb H
        refine AR.seg hG hm 3 [1, 2, 15, 16, 17] (k' := [.loop [1, 1, 0, 1, 0], .blk 0, .code [1, 1, 1]]) (t' := [(1, .sl 34 (List.map Rule.av s2) f_s2), (2, .fn F_eq C_eq), (15, .sl 34 (List.map Rule.av s1) f_s1), (16, .sc (.int .i64 (((List.map Rule.av s1).length : Nat) : Int))), (17, .sc (.int .i64 (IntKind.i64.wrap (((t17 : Nat) : Int) + 1))))]) (h' := [.box 34 [.arr .u64 12 x.Match.Value, .arr .u64 12 x.Match.Care, .sc (.int .i64 x.Prio), .sl 42 (List.map Act.av x.Acts) false, .sc (.int .i64 x.Idle), .sc (.int .i64 x.Hard), .sc (.int .i64 x.Owner), .sc (.int .i64 x.Hits), .sc (.int .i64 x.Quiet), .sc (.int .i64 x.Age)], .box 34 [.arr .u64 12 x1.Match.Value, .arr .u64 12 x1.Match.Care, .sc (.int .i64 x1.Prio), .sl 42 (List.map Act.av x1.Acts) false, .sc (.int .i64 x1.Idle), .sc (.int .i64 x1.Hard), .sc (.int .i64 x1.Owner), .sc (.int .i64 x1.Hits), .sc (.int .i64 x1.Quiet), .sc (.int .i64 x1.Age)]]) (by kernel_rfl) ?_
        refine AR.keep [1, 2, 15, 16, 17] (t' := [(1, .sl 34 (List.map Rule.av s2) f_s2), (2, .fn F_eq C_eq), (15, .sl 34 (List.map Rule.av s1) f_s1), (16, .sc (.int .i64 (((List.map Rule.av s1).length : Nat) : Int))), (17, .sc (.int .i64 (IntKind.i64.wrap (((t17 : Nat) : Int) + 1))))]) (by kernel_rfl) ?_
        refine AR.dropX 0 hc0 (h' := []) (by kernel_rfl) (.cons (by kernel_rfl) (.cons (below_fn P_eq) (.cons (by kernel_rfl) (.cons (by kernel_rfl) (.cons (by kernel_rfl) .nil))))) (by kernel_rfl) ?_
        refine AR.loop_round ?_
        rw [hw]
        exact ih (t17 + 1) hd2 H
    case hf9 => exact absurd (hc.symm.trans hb) (by decide)

def slices_EqualFunc__api_Rule_raw (s1 : List Rule) (s2 : List Rule) (eq : Rule → Rule → Bool) : Option (Bool) :=
  (bif ((((List.map Rule.av s1).length : Nat) : Int) != (((List.map Rule.av s2).length : Nat) : Int)) then
    some false
  else
    loopO (slices_EqualFunc__api_Rule_l0s s2 eq s1 0) fun v =>
    some true)
theorem slices_EqualFunc__api_Rule_walk (s1 : List Rule) (s2 : List Rule) (F_eq : FuncId) (C_eq : List AV) (eq : Rule → Rule → Bool) (P_eq : plainL C_eq = true) (O_eq : C_eq.all oneA = true) (H_eq : ∀ (y0 : Rule) (y1 : Rule), ACalls Try.prog tab.S F_eq ([Rule.av y0, Rule.av y1] ++ C_eq) [] (.sc (.bool (eq y0 y1))) []) (f_s1 : Bool) (f_s2 : Bool) (r : Bool) (H : slices_EqualFunc__api_Rule_raw s1 s2 eq = some r) :
    ACalls Try.prog tab.S 45 [.sl 34 (List.map Rule.av s1) f_s1, .sl 34 (List.map Rule.av s2) f_s2, .fn F_eq C_eq] [] (.sc (.bool r)) [] := by
  have hG := tab_ok
  have hm := mixed
  refine ACalls.of_AR (G := tab) slices_EqualFunc__api_Rule_F (fn := Try.f45) Try.func45 (by kernel_rfl) (by kernel_rfl) (by kernel_rfl) (Nat.le_of_ble_eq_true (by kernel_rfl)) ?_
  intro c0 hc0
  replace hc0 : c0.m.length = 0 := hc0
  rw [slices_EqualFunc__api_Rule_raw] at H
  refine AR.seg hG hm 5 [0, 1, 2, 14] (k' := [.code [1, 0, 1], .code [1, 1]]) (t' := [(0, .sl 34 (List.map Rule.av s1) f_s1), (1, .sl 34 (List.map Rule.av s2) f_s2), (2, .fn F_eq C_eq), (14, .sc (.bool ((((List.map Rule.av s1).length : Nat) : Int) != (((List.map Rule.av s2).length : Nat) : Int))))]) (h' := []) (by kernel_rfl) ?_
  refine AR.cond (.tmp 14) ((((List.map Rule.av s1).length : Nat) : Int) != (((List.map Rule.av s2).length : Nat) : Int)) (by kernel_rfl) (by kernel_rfl) (fun hb => ?ht1) (fun hb => ?hf1)
  case ht1 =>
    replace H := cond_t hb H
    refine AR.seg hG hm 2 [6] (k' := [.code [1, 0, 1, 0, 1], .code [1, 1]]) (t' := [(6, .sc (.bool false))]) (h' := []) (by kernel_rfl) ?_
    obtain rfl := Option.some.inj H
    exact AR.ret0 (fn := Try.f45) hG Try.func45 (by kernel_rfl) hc0 (r0 := .sc (.bool false)) (by kernel_rfl) (WkV.refl _)
  case hf1 =>
    replace H := cond_f hb H
    refine AR.seg hG hm 5 [1, 2, 15, 16, 17] (k' := [.code [1, 1, 0, 1, 0], .blk 0, .code [1, 1, 1]]) (t' := [(1, .sl 34 (List.map Rule.av s2) f_s2), (2, .fn F_eq C_eq), (15, .sl 34 (List.map Rule.av s1) f_s1), (16, .sc (.int .i64 (((List.map Rule.av s1).length : Nat) : Int))), (17, .sc (.int .i64 0))]) (h' := []) (by kernel_rfl) ?_
    rcases loopO_some H with ⟨v, hv, H⟩ | hv
    case inr =>
      refine AR.into (by kernel_rfl) ?_
      exact slices_EqualFunc__api_Rule_l0_walk s1 s2 F_eq C_eq eq P_eq O_eq H_eq f_s1 f_s2 _ c0 hc0 (.inr _) (fun _ e => by cases e) (fun _ e => (Sum.inr.inj e).symm) s1 0 rfl hv
    refine AR.into (by kernel_rfl) ?_
    refine slices_EqualFunc__api_Rule_l0_walk s1 s2 F_eq C_eq eq P_eq O_eq H_eq f_s1 f_s2 r c0 hc0 (.inl v) (fun w e => ?_) (fun _ e => by cases e) s1 0 rfl hv
    have e := Sum.inl.inj e
    subst e
    refine AR.seg hG hm 2 [6] (k' := [.code [1, 1, 1, 1]]) (t' := [(6, .sc (.bool true))]) (h' := []) (by kernel_rfl) ?_
    obtain rfl := Option.some.inj H
    exact AR.ret0 (fn := Try.f45) hG Try.func45 (by kernel_rfl) hc0 (r0 := .sc (.bool true)) (by kernel_rfl) (WkV.refl _)

theorem slices_EqualFunc__api_Rule_ok (s1 s2 : List Rule) (F_eq : FuncId) (C_eq : List AV) (eq : Rule → Rule → Bool) (P_eq : plainL C_eq = true) (O_eq : C_eq.all oneA = true) (H_eq : ∀ (y0 : Rule) (y1 : Rule), ACalls Try.prog tab.S F_eq ([Rule.av y0, Rule.av y1] ++ C_eq) [] (.sc (.bool (eq y0 y1))) []) (f_s1 f_s2 : Bool) :
    ACalls Try.prog tab.S 45 [.sl 34 (List.map Rule.av s1) f_s1, .sl 34 (List.map Rule.av s2) f_s2, .fn F_eq C_eq] [] (.sc (.bool (zipAll eq s1 s2))) [] := by
  refine slices_EqualFunc__api_Rule_walk s1 s2 F_eq C_eq eq P_eq O_eq H_eq f_s1 f_s2 _ ?_
  rw [slices_EqualFunc__api_Rule_raw, len_bne]
  by_cases h : s1.length = s2.length
  · simp only [h, decide_true, Bool.not_true, cond_false]
    rw [cmp_loop (v := false) (slices_EqualFunc__api_Rule_l0s s2 eq) s2 eq (fun _ => rfl) (fun x r i => by rw [slices_EqualFunc__api_Rule_l0s]) s1 0 (by omega), List.drop_zero]
    cases zipAll eq s1 s2 <;> rfl
  · rw [zipAll_ne eq h]
    simp only [h, decide_false, Bool.not_false, cond_true]

/-! ### podestaref04.Key: function 18 -/
noncomputable def podestaref04_Key_F : Go.Sh.Fn := ⟨18, bodyOf Try.f18, 17⟩
def podestaref04_Key_k0 : List Kd := [.pure, .read, .pure, .read, .pure, .pure, .pure, .read, .pure, .read, .pure, .pure, .pure]
def podestaref04_Key (a : Rule) (b : Rule) : Bool :=
  (((a.Match.Value == b.Match.Value) && (a.Match.Care == b.Match.Care)) && (a.Prio == b.Prio))
theorem podestaref04_Key_walk (a : Rule) (b : Rule) (r : Bool) (H : podestaref04_Key a b = r) :
    ACalls Try.prog tab.S 18 [Rule.av a, Rule.av b] [] (.sc (.bool r)) [] := by
  have hG := tab_ok
  have hm := mixed
  refine ACalls.of_AR (G := tab) podestaref04_Key_F (fn := Try.f18) Try.func18 (by kernel_rfl) (by kernel_rfl) (by kernel_rfl) (Nat.le_of_ble_eq_true (by kernel_rfl)) ?_
  intro c0 hc0
  replace hc0 : c0.m.length = 0 := hc0
  rw [podestaref04_Key] at H
  refine AR.seg hG hm 3 [2, 3] (k' := [.code [1, 0], .code [1, 1]]) (t' := [(2, .ptr 0 0 none), (3, .ptr 1 0 none)]) (h' := [.box 34 [.arr .u64 12 a.Match.Value, .arr .u64 12 a.Match.Care, .sc (.int .i64 a.Prio), .sl 42 (List.map Act.av a.Acts) false, .sc (.int .i64 a.Idle), .sc (.int .i64 a.Hard), .sc (.int .i64 a.Owner), .sc (.int .i64 a.Hits), .sc (.int .i64 a.Quiet), .sc (.int .i64 a.Age)], .box 34 [.arr .u64 12 b.Match.Value, .arr .u64 12 b.Match.Care, .sc (.int .i64 b.Prio), .sl 42 (List.map Act.av b.Acts) false, .sc (.int .i64 b.Idle), .sc (.int .i64 b.Hard), .sc (.int .i64 b.Owner), .sc (.int .i64 b.Hits), .sc (.int .i64 b.Quiet), .sc (.int .i64 b.Age)]]) (by kernel_rfl) ?_
  refine AR.reg hm podestaref04_Key_k0 (by kernel_rfl) ?_
  refine DK.seg hG 4 [2, 3, 6, 8] (t' := [(2, .ptr 0 0 none), (3, .ptr 1 0 none), (6, Cube.av a.Match), (8, Cube.av b.Match)]) (h' := [.box 34 [.arr .u64 12 a.Match.Value, .arr .u64 12 a.Match.Care, .sc (.int .i64 a.Prio), .sl 42 (List.map Act.av a.Acts) false, .sc (.int .i64 a.Idle), .sc (.int .i64 a.Hard), .sc (.int .i64 a.Owner), .sc (.int .i64 a.Hits), .sc (.int .i64 a.Quiet), .sc (.int .i64 a.Age)], .box 34 [.arr .u64 12 b.Match.Value, .arr .u64 12 b.Match.Care, .sc (.int .i64 b.Prio), .sl 42 (List.map Act.av b.Acts) false, .sc (.int .i64 b.Idle), .sc (.int .i64 b.Hard), .sc (.int .i64 b.Owner), .sc (.int .i64 b.Hits), .sc (.int .i64 b.Quiet), .sc (.int .i64 b.Age)]]) (by kernel_rfl) rfl ?_
  refine DK.op' [2, 3, 9] (t' := [(2, .ptr 0 0 none), (3, .ptr 1 0 none), (9, .sc (.bool ((a.Match.Value == b.Match.Value) && (a.Match.Care == b.Match.Care))))]) (h' := [.box 34 [.arr .u64 12 a.Match.Value, .arr .u64 12 a.Match.Care, .sc (.int .i64 a.Prio), .sl 42 (List.map Act.av a.Acts) false, .sc (.int .i64 a.Idle), .sc (.int .i64 a.Hard), .sc (.int .i64 a.Owner), .sc (.int .i64 a.Hits), .sc (.int .i64 a.Quiet), .sc (.int .i64 a.Age)], .box 34 [.arr .u64 12 b.Match.Value, .arr .u64 12 b.Match.Care, .sc (.int .i64 b.Prio), .sl 42 (List.map Act.av b.Acts) false, .sc (.int .i64 b.Idle), .sc (.int .i64 b.Hard), .sc (.int .i64 b.Owner), .sc (.int .i64 b.Hits), .sc (.int .i64 b.Quiet), .sc (.int .i64 b.Age)]]) (LSpec.eq' 9 (r := ((a.Match.Value == b.Match.Value) && (a.Match.Care == b.Match.Care))) (by kernel_rfl)) (by kernel_rfl) rfl (by kernel_rfl) rfl ?_
  refine DK.seg hG 1 [2, 3, 10] (t' := [(2, .ptr 0 0 none), (3, .ptr 1 0 none), (10, .sc (.bool ((a.Match.Value == b.Match.Value) && (a.Match.Care == b.Match.Care))))]) (h' := [.box 34 [.arr .u64 12 a.Match.Value, .arr .u64 12 a.Match.Care, .sc (.int .i64 a.Prio), .sl 42 (List.map Act.av a.Acts) false, .sc (.int .i64 a.Idle), .sc (.int .i64 a.Hard), .sc (.int .i64 a.Owner), .sc (.int .i64 a.Hits), .sc (.int .i64 a.Quiet), .sc (.int .i64 a.Age)], .box 34 [.arr .u64 12 b.Match.Value, .arr .u64 12 b.Match.Care, .sc (.int .i64 b.Prio), .sl 42 (List.map Act.av b.Acts) false, .sc (.int .i64 b.Idle), .sc (.int .i64 b.Hard), .sc (.int .i64 b.Owner), .sc (.int .i64 b.Hits), .sc (.int .i64 b.Quiet), .sc (.int .i64 b.Age)]]) (by kernel_rfl) rfl ?_
  refine DK.mux 10 ((a.Match.Value == b.Match.Value) && (a.Match.Care == b.Match.Care)) (j := 12) (h' := [.box 34 [.arr .u64 12 a.Match.Value, .arr .u64 12 a.Match.Care, .sc (.int .i64 a.Prio), .sl 42 (List.map Act.av a.Acts) false, .sc (.int .i64 a.Idle), .sc (.int .i64 a.Hard), .sc (.int .i64 a.Owner), .sc (.int .i64 a.Hits), .sc (.int .i64 a.Quiet), .sc (.int .i64 a.Age)], .box 34 [.arr .u64 12 b.Match.Value, .arr .u64 12 b.Match.Care, .sc (.int .i64 b.Prio), .sl 42 (List.map Act.av b.Acts) false, .sc (.int .i64 b.Idle), .sc (.int .i64 b.Hard), .sc (.int .i64 b.Owner), .sc (.int .i64 b.Hits), .sc (.int .i64 b.Quiet), .sc (.int .i64 b.Age)]]) (by kernel_rfl) (fun z => [(16, .sc (.bool (z && (a.Prio == b.Prio))))]) ?J1 (fun hb J => ?ht1) (fun hb J => ?hf1)
  case ht1 =>
    exact DK.seg hG 6 [16] (by kernel_rfl) rfl J
  case hf1 =>
    exact DK.seg hG 6 [16] (by kernel_rfl) rfl J
  refine DK.seg hG 1 [4] (t' := [(4, .sc (.bool (((a.Match.Value == b.Match.Value) && (a.Match.Care == b.Match.Care)) && (a.Prio == b.Prio))))]) (h' := [.box 34 [.arr .u64 12 a.Match.Value, .arr .u64 12 a.Match.Care, .sc (.int .i64 a.Prio), .sl 42 (List.map Act.av a.Acts) false, .sc (.int .i64 a.Idle), .sc (.int .i64 a.Hard), .sc (.int .i64 a.Owner), .sc (.int .i64 a.Hits), .sc (.int .i64 a.Quiet), .sc (.int .i64 a.Age)], .box 34 [.arr .u64 12 b.Match.Value, .arr .u64 12 b.Match.Care, .sc (.int .i64 b.Prio), .sl 42 (List.map Act.av b.Acts) false, .sc (.int .i64 b.Idle), .sc (.int .i64 b.Hard), .sc (.int .i64 b.Owner), .sc (.int .i64 b.Hits), .sc (.int .i64 b.Quiet), .sc (.int .i64 b.Age)]]) (by kernel_rfl) rfl ?_
  refine DK.done (by kernel_rfl) (by kernel_rfl) ?_
  subst H
  exact AR.ret0 (fn := Try.f18) hG Try.func18 (by kernel_rfl) hc0 (r0 := .sc (.bool (((a.Match.Value == b.Match.Value) && (a.Match.Care == b.Match.Care)) && (a.Prio == b.Prio)))) (by kernel_rfl) (WkV.refl _)
theorem podestaref04_Key_calls (a : Rule) (b : Rule) : ACalls Try.prog tab.S 18 [Rule.av a, Rule.av b] [] (.sc (.bool (podestaref04_Key a b))) [] := podestaref04_Key_walk a b _ rfl

/-! ### podestaref04.Equal: function 47 -/
noncomputable def podestaref04_Equal_F : Go.Sh.Fn := ⟨47, bodyOf Try.f47, 57⟩
def podestaref04_Equal_k0 : List Kd := [.read, .read, .pure, .pure, .pure, .read, .pure, .read, .pure, .pure, .pure, .pure, .read, .pure, .read, .pure, .pure, .pure, .pure, .read, .pure, .read, .pure, .pure, .pure, .pure, .read, .pure, .read, .pure, .pure, .pure, .pure, .read, .pure, .read, .pure, .pure, .pure, .pure, .read, .pure, .read, .pure, .pure, .pure, .pure, .read, .pure, .read, .pure, .pure, .pure]
def podestaref04_Equal (a : Rule) (b : Rule) : Bool :=
  ((((((((podestaref04_Key a b) && (a.Acts == b.Acts)) && (a.Idle == b.Idle)) && (a.Hard == b.Hard)) && (a.Owner == b.Owner)) && (a.Hits == b.Hits)) && (a.Quiet == b.Quiet)) && (a.Age == b.Age))
theorem podestaref04_Equal_walk (a : Rule) (b : Rule) (r : Bool) (H : podestaref04_Equal a b = r) :
    ACalls Try.prog tab.S 47 [Rule.av a, Rule.av b] [] (.sc (.bool r)) [] := by
  have hG := tab_ok
  have hm := mixed
  refine ACalls.of_AR (G := tab) podestaref04_Equal_F (fn := Try.f47) Try.func47 (by kernel_rfl) (by kernel_rfl) (by kernel_rfl) (Nat.le_of_ble_eq_true (by kernel_rfl)) ?_
  intro c0 hc0
  replace hc0 : c0.m.length = 0 := hc0
  rw [podestaref04_Equal] at H
  refine AR.seg hG hm 3 [2, 3] (k' := [.code [1, 0], .code [1, 1]]) (t' := [(2, .ptr 0 0 none), (3, .ptr 1 0 none)]) (h' := [.box 34 [.arr .u64 12 a.Match.Value, .arr .u64 12 a.Match.Care, .sc (.int .i64 a.Prio), .sl 42 (List.map Act.av a.Acts) false, .sc (.int .i64 a.Idle), .sc (.int .i64 a.Hard), .sc (.int .i64 a.Owner), .sc (.int .i64 a.Hits), .sc (.int .i64 a.Quiet), .sc (.int .i64 a.Age)], .box 34 [.arr .u64 12 b.Match.Value, .arr .u64 12 b.Match.Care, .sc (.int .i64 b.Prio), .sl 42 (List.map Act.av b.Acts) false, .sc (.int .i64 b.Idle), .sc (.int .i64 b.Hard), .sc (.int .i64 b.Owner), .sc (.int .i64 b.Hits), .sc (.int .i64 b.Quiet), .sc (.int .i64 b.Age)]]) (by kernel_rfl) ?_
  refine AR.reg hm podestaref04_Equal_k0 (by kernel_rfl) ?_
  refine DK.seg hG 2 [2, 3, 5, 6] (t' := [(2, .ptr 0 0 none), (3, .ptr 1 0 none), (5, Rule.av a), (6, Rule.av b)]) (h' := [.box 34 [.arr .u64 12 a.Match.Value, .arr .u64 12 a.Match.Care, .sc (.int .i64 a.Prio), .sl 42 (List.map Act.av a.Acts) false, .sc (.int .i64 a.Idle), .sc (.int .i64 a.Hard), .sc (.int .i64 a.Owner), .sc (.int .i64 a.Hits), .sc (.int .i64 a.Quiet), .sc (.int .i64 a.Age)], .box 34 [.arr .u64 12 b.Match.Value, .arr .u64 12 b.Match.Care, .sc (.int .i64 b.Prio), .sl 42 (List.map Act.av b.Acts) false, .sc (.int .i64 b.Idle), .sc (.int .i64 b.Hard), .sc (.int .i64 b.Owner), .sc (.int .i64 b.Hits), .sc (.int .i64 b.Quiet), .sc (.int .i64 b.Age)]]) (by kernel_rfl) rfl ?_
  refine DK.op' [2, 3, 7] (t' := [(2, .ptr 0 0 none), (3, .ptr 1 0 none), (7, .sc (.bool (podestaref04_Key a b)))]) (h' := [.box 34 [.arr .u64 12 a.Match.Value, .arr .u64 12 a.Match.Care, .sc (.int .i64 a.Prio), .sl 42 (List.map Act.av a.Acts) false, .sc (.int .i64 a.Idle), .sc (.int .i64 a.Hard), .sc (.int .i64 a.Owner), .sc (.int .i64 a.Hits), .sc (.int .i64 a.Quiet), .sc (.int .i64 a.Age)], .box 34 [.arr .u64 12 b.Match.Value, .arr .u64 12 b.Match.Care, .sc (.int .i64 b.Prio), .sl 42 (List.map Act.av b.Acts) false, .sc (.int .i64 b.Idle), .sc (.int .i64 b.Hard), .sc (.int .i64 b.Owner), .sc (.int .i64 b.Hits), .sc (.int .i64 b.Quiet), .sc (.int .i64 b.Age)]]) (LSpec.callP' (podestaref04_Key_calls a b) (by kernel_rfl)) (by kernel_rfl) rfl (by kernel_rfl) rfl ?_
  refine DK.seg hG 1 [2, 3, 8] (t' := [(2, .ptr 0 0 none), (3, .ptr 1 0 none), (8, .sc (.bool (podestaref04_Key a b)))]) (h' := [.box 34 [.arr .u64 12 a.Match.Value, .arr .u64 12 a.Match.Care, .sc (.int .i64 a.Prio), .sl 42 (List.map Act.av a.Acts) false, .sc (.int .i64 a.Idle), .sc (.int .i64 a.Hard), .sc (.int .i64 a.Owner), .sc (.int .i64 a.Hits), .sc (.int .i64 a.Quiet), .sc (.int .i64 a.Age)], .box 34 [.arr .u64 12 b.Match.Value, .arr .u64 12 b.Match.Care, .sc (.int .i64 b.Prio), .sl 42 (List.map Act.av b.Acts) false, .sc (.int .i64 b.Idle), .sc (.int .i64 b.Hard), .sc (.int .i64 b.Owner), .sc (.int .i64 b.Hits), .sc (.int .i64 b.Quiet), .sc (.int .i64 b.Age)]]) (by kernel_rfl) rfl ?_
  refine DK.mux 8 (podestaref04_Key a b) (j := 10) (h' := [.box 34 [.arr .u64 12 a.Match.Value, .arr .u64 12 a.Match.Care, .sc (.int .i64 a.Prio), .sl 42 (List.map Act.av a.Acts) false, .sc (.int .i64 a.Idle), .sc (.int .i64 a.Hard), .sc (.int .i64 a.Owner), .sc (.int .i64 a.Hits), .sc (.int .i64 a.Quiet), .sc (.int .i64 a.Age)], .box 34 [.arr .u64 12 b.Match.Value, .arr .u64 12 b.Match.Care, .sc (.int .i64 b.Prio), .sl 42 (List.map Act.av b.Acts) false, .sc (.int .i64 b.Idle), .sc (.int .i64 b.Hard), .sc (.int .i64 b.Owner), .sc (.int .i64 b.Hits), .sc (.int .i64 b.Quiet), .sc (.int .i64 b.Age)]]) (by kernel_rfl) (fun z => [(2, .ptr 0 0 none), (3, .ptr 1 0 none), (14, .sc (.bool (z && (a.Acts == b.Acts))))]) ?J1 (fun hb J => ?ht1) (fun hb J => ?hf1)
  case ht1 =>
    refine DK.seg hG 4 [2, 3, 8, 10, 12] (t' := [(2, .ptr 0 0 none), (3, .ptr 1 0 none), (8, .sc (.bool true)), (10, .sl 42 (List.map Act.av a.Acts) false), (12, .sl 42 (List.map Act.av b.Acts) false)]) (h' := [.box 34 [.arr .u64 12 a.Match.Value, .arr .u64 12 a.Match.Care, .sc (.int .i64 a.Prio), .sl 42 (List.map Act.av a.Acts) false, .sc (.int .i64 a.Idle), .sc (.int .i64 a.Hard), .sc (.int .i64 a.Owner), .sc (.int .i64 a.Hits), .sc (.int .i64 a.Quiet), .sc (.int .i64 a.Age)], .box 34 [.arr .u64 12 b.Match.Value, .arr .u64 12 b.Match.Care, .sc (.int .i64 b.Prio), .sl 42 (List.map Act.av b.Acts) false, .sc (.int .i64 b.Idle), .sc (.int .i64 b.Hard), .sc (.int .i64 b.Owner), .sc (.int .i64 b.Hits), .sc (.int .i64 b.Quiet), .sc (.int .i64 b.Age)]]) (by kernel_rfl) rfl ?_
    refine DK.op' [2, 3, 8, 13] (t' := [(2, .ptr 0 0 none), (3, .ptr 1 0 none), (8, .sc (.bool true)), (13, .sc (.bool (a.Acts == b.Acts)))]) (h' := [.box 34 [.arr .u64 12 a.Match.Value, .arr .u64 12 a.Match.Care, .sc (.int .i64 a.Prio), .sl 42 (List.map Act.av a.Acts) false, .sc (.int .i64 a.Idle), .sc (.int .i64 a.Hard), .sc (.int .i64 a.Owner), .sc (.int .i64 a.Hits), .sc (.int .i64 a.Quiet), .sc (.int .i64 a.Age)], .box 34 [.arr .u64 12 b.Match.Value, .arr .u64 12 b.Match.Care, .sc (.int .i64 b.Prio), .sl 42 (List.map Act.av b.Acts) false, .sc (.int .i64 b.Idle), .sc (.int .i64 b.Hard), .sc (.int .i64 b.Owner), .sc (.int .i64 b.Hits), .sc (.int .i64 b.Quiet), .sc (.int .i64 b.Age)]]) (LSpec.callP' (podestaref04_SameActs_ok a.Acts b.Acts false false) (by kernel_rfl)) (by kernel_rfl) rfl (by kernel_rfl) rfl ?_
    exact DK.seg hG 1 [2, 3, 14] (by kernel_rfl) rfl J
  case hf1 =>
    exact DK.seg hG 6 [2, 3, 14] (by kernel_rfl) rfl J
  refine DK.seg hG 1 [2, 3, 15] (t' := [(2, .ptr 0 0 none), (3, .ptr 1 0 none), (15, .sc (.bool ((podestaref04_Key a b) && (a.Acts == b.Acts))))]) (h' := [.box 34 [.arr .u64 12 a.Match.Value, .arr .u64 12 a.Match.Care, .sc (.int .i64 a.Prio), .sl 42 (List.map Act.av a.Acts) false, .sc (.int .i64 a.Idle), .sc (.int .i64 a.Hard), .sc (.int .i64 a.Owner), .sc (.int .i64 a.Hits), .sc (.int .i64 a.Quiet), .sc (.int .i64 a.Age)], .box 34 [.arr .u64 12 b.Match.Value, .arr .u64 12 b.Match.Care, .sc (.int .i64 b.Prio), .sl 42 (List.map Act.av b.Acts) false, .sc (.int .i64 b.Idle), .sc (.int .i64 b.Hard), .sc (.int .i64 b.Owner), .sc (.int .i64 b.Hits), .sc (.int .i64 b.Quiet), .sc (.int .i64 b.Age)]]) (by kernel_rfl) rfl ?_
  refine DK.mux 15 ((podestaref04_Key a b) && (a.Acts == b.Acts)) (j := 17) (h' := [.box 34 [.arr .u64 12 a.Match.Value, .arr .u64 12 a.Match.Care, .sc (.int .i64 a.Prio), .sl 42 (List.map Act.av a.Acts) false, .sc (.int .i64 a.Idle), .sc (.int .i64 a.Hard), .sc (.int .i64 a.Owner), .sc (.int .i64 a.Hits), .sc (.int .i64 a.Quiet), .sc (.int .i64 a.Age)], .box 34 [.arr .u64 12 b.Match.Value, .arr .u64 12 b.Match.Care, .sc (.int .i64 b.Prio), .sl 42 (List.map Act.av b.Acts) false, .sc (.int .i64 b.Idle), .sc (.int .i64 b.Hard), .sc (.int .i64 b.Owner), .sc (.int .i64 b.Hits), .sc (.int .i64 b.Quiet), .sc (.int .i64 b.Age)]]) (by kernel_rfl) (fun z => [(2, .ptr 0 0 none), (3, .ptr 1 0 none), (21, .sc (.bool (z && (a.Idle == b.Idle))))]) ?J2 (fun hb J => ?ht2) (fun hb J => ?hf2)
  case ht2 =>
    exact DK.seg hG 6 [2, 3, 21] (by kernel_rfl) rfl J
  case hf2 =>
    exact DK.seg hG 6 [2, 3, 21] (by kernel_rfl) rfl J
  refine DK.seg hG 1 [2, 3, 22] (t' := [(2, .ptr 0 0 none), (3, .ptr 1 0 none), (22, .sc (.bool (((podestaref04_Key a b) && (a.Acts == b.Acts)) && (a.Idle == b.Idle))))]) (h' := [.box 34 [.arr .u64 12 a.Match.Value, .arr .u64 12 a.Match.Care, .sc (.int .i64 a.Prio), .sl 42 (List.map Act.av a.Acts) false, .sc (.int .i64 a.Idle), .sc (.int .i64 a.Hard), .sc (.int .i64 a.Owner), .sc (.int .i64 a.Hits), .sc (.int .i64 a.Quiet), .sc (.int .i64 a.Age)], .box 34 [.arr .u64 12 b.Match.Value, .arr .u64 12 b.Match.Care, .sc (.int .i64 b.Prio), .sl 42 (List.map Act.av b.Acts) false, .sc (.int .i64 b.Idle), .sc (.int .i64 b.Hard), .sc (.int .i64 b.Owner), .sc (.int .i64 b.Hits), .sc (.int .i64 b.Quiet), .sc (.int .i64 b.Age)]]) (by kernel_rfl) rfl ?_
  refine DK.mux 22 (((podestaref04_Key a b) && (a.Acts == b.Acts)) && (a.Idle == b.Idle)) (j := 24) (h' := [.box 34 [.arr .u64 12 a.Match.Value, .arr .u64 12 a.Match.Care, .sc (.int .i64 a.Prio), .sl 42 (List.map Act.av a.Acts) false, .sc (.int .i64 a.Idle), .sc (.int .i64 a.Hard), .sc (.int .i64 a.Owner), .sc (.int .i64 a.Hits), .sc (.int .i64 a.Quiet), .sc (.int .i64 a.Age)], .box 34 [.arr .u64 12 b.Match.Value, .arr .u64 12 b.Match.Care, .sc (.int .i64 b.Prio), .sl 42 (List.map Act.av b.Acts) false, .sc (.int .i64 b.Idle), .sc (.int .i64 b.Hard), .sc (.int .i64 b.Owner), .sc (.int .i64 b.Hits), .sc (.int .i64 b.Quiet), .sc (.int .i64 b.Age)]]) (by kernel_rfl) (fun z => [(2, .ptr 0 0 none), (3, .ptr 1 0 none), (28, .sc (.bool (z && (a.Hard == b.Hard))))]) ?J3 (fun hb J => ?ht3) (fun hb J => ?hf3)
  case ht3 =>
    exact DK.seg hG 6 [2, 3, 28] (by kernel_rfl) rfl J
  case hf3 =>
    exact DK.seg hG 6 [2, 3, 28] (by kernel_rfl) rfl J
  refine DK.seg hG 1 [2, 3, 29] (t' := [(2, .ptr 0 0 none), (3, .ptr 1 0 none), (29, .sc (.bool ((((podestaref04_Key a b) && (a.Acts == b.Acts)) && (a.Idle == b.Idle)) && (a.Hard == b.Hard))))]) (h' := [.box 34 [.arr .u64 12 a.Match.Value, .arr .u64 12 a.Match.Care, .sc (.int .i64 a.Prio), .sl 42 (List.map Act.av a.Acts) false, .sc (.int .i64 a.Idle), .sc (.int .i64 a.Hard), .sc (.int .i64 a.Owner), .sc (.int .i64 a.Hits), .sc (.int .i64 a.Quiet), .sc (.int .i64 a.Age)], .box 34 [.arr .u64 12 b.Match.Value, .arr .u64 12 b.Match.Care, .sc (.int .i64 b.Prio), .sl 42 (List.map Act.av b.Acts) false, .sc (.int .i64 b.Idle), .sc (.int .i64 b.Hard), .sc (.int .i64 b.Owner), .sc (.int .i64 b.Hits), .sc (.int .i64 b.Quiet), .sc (.int .i64 b.Age)]]) (by kernel_rfl) rfl ?_
  refine DK.mux 29 ((((podestaref04_Key a b) && (a.Acts == b.Acts)) && (a.Idle == b.Idle)) && (a.Hard == b.Hard)) (j := 31) (h' := [.box 34 [.arr .u64 12 a.Match.Value, .arr .u64 12 a.Match.Care, .sc (.int .i64 a.Prio), .sl 42 (List.map Act.av a.Acts) false, .sc (.int .i64 a.Idle), .sc (.int .i64 a.Hard), .sc (.int .i64 a.Owner), .sc (.int .i64 a.Hits), .sc (.int .i64 a.Quiet), .sc (.int .i64 a.Age)], .box 34 [.arr .u64 12 b.Match.Value, .arr .u64 12 b.Match.Care, .sc (.int .i64 b.Prio), .sl 42 (List.map Act.av b.Acts) false, .sc (.int .i64 b.Idle), .sc (.int .i64 b.Hard), .sc (.int .i64 b.Owner), .sc (.int .i64 b.Hits), .sc (.int .i64 b.Quiet), .sc (.int .i64 b.Age)]]) (by kernel_rfl) (fun z => [(2, .ptr 0 0 none), (3, .ptr 1 0 none), (35, .sc (.bool (z && (a.Owner == b.Owner))))]) ?J4 (fun hb J => ?ht4) (fun hb J => ?hf4)
  case ht4 =>
    exact DK.seg hG 6 [2, 3, 35] (by kernel_rfl) rfl J
  case hf4 =>
    exact DK.seg hG 6 [2, 3, 35] (by kernel_rfl) rfl J
  refine DK.seg hG 1 [2, 3, 36] (t' := [(2, .ptr 0 0 none), (3, .ptr 1 0 none), (36, .sc (.bool (((((podestaref04_Key a b) && (a.Acts == b.Acts)) && (a.Idle == b.Idle)) && (a.Hard == b.Hard)) && (a.Owner == b.Owner))))]) (h' := [.box 34 [.arr .u64 12 a.Match.Value, .arr .u64 12 a.Match.Care, .sc (.int .i64 a.Prio), .sl 42 (List.map Act.av a.Acts) false, .sc (.int .i64 a.Idle), .sc (.int .i64 a.Hard), .sc (.int .i64 a.Owner), .sc (.int .i64 a.Hits), .sc (.int .i64 a.Quiet), .sc (.int .i64 a.Age)], .box 34 [.arr .u64 12 b.Match.Value, .arr .u64 12 b.Match.Care, .sc (.int .i64 b.Prio), .sl 42 (List.map Act.av b.Acts) false, .sc (.int .i64 b.Idle), .sc (.int .i64 b.Hard), .sc (.int .i64 b.Owner), .sc (.int .i64 b.Hits), .sc (.int .i64 b.Quiet), .sc (.int .i64 b.Age)]]) (by kernel_rfl) rfl ?_
  refine DK.mux 36 (((((podestaref04_Key a b) && (a.Acts == b.Acts)) && (a.Idle == b.Idle)) && (a.Hard == b.Hard)) && (a.Owner == b.Owner)) (j := 38) (h' := [.box 34 [.arr .u64 12 a.Match.Value, .arr .u64 12 a.Match.Care, .sc (.int .i64 a.Prio), .sl 42 (List.map Act.av a.Acts) false, .sc (.int .i64 a.Idle), .sc (.int .i64 a.Hard), .sc (.int .i64 a.Owner), .sc (.int .i64 a.Hits), .sc (.int .i64 a.Quiet), .sc (.int .i64 a.Age)], .box 34 [.arr .u64 12 b.Match.Value, .arr .u64 12 b.Match.Care, .sc (.int .i64 b.Prio), .sl 42 (List.map Act.av b.Acts) false, .sc (.int .i64 b.Idle), .sc (.int .i64 b.Hard), .sc (.int .i64 b.Owner), .sc (.int .i64 b.Hits), .sc (.int .i64 b.Quiet), .sc (.int .i64 b.Age)]]) (by kernel_rfl) (fun z => [(2, .ptr 0 0 none), (3, .ptr 1 0 none), (42, .sc (.bool (z && (a.Hits == b.Hits))))]) ?J5 (fun hb J => ?ht5) (fun hb J => ?hf5)
  case ht5 =>
    exact DK.seg hG 6 [2, 3, 42] (by kernel_rfl) rfl J
  case hf5 =>
    exact DK.seg hG 6 [2, 3, 42] (by kernel_rfl) rfl J
  refine DK.seg hG 1 [2, 3, 43] (t' := [(2, .ptr 0 0 none), (3, .ptr 1 0 none), (43, .sc (.bool ((((((podestaref04_Key a b) && (a.Acts == b.Acts)) && (a.Idle == b.Idle)) && (a.Hard == b.Hard)) && (a.Owner == b.Owner)) && (a.Hits == b.Hits))))]) (h' := [.box 34 [.arr .u64 12 a.Match.Value, .arr .u64 12 a.Match.Care, .sc (.int .i64 a.Prio), .sl 42 (List.map Act.av a.Acts) false, .sc (.int .i64 a.Idle), .sc (.int .i64 a.Hard), .sc (.int .i64 a.Owner), .sc (.int .i64 a.Hits), .sc (.int .i64 a.Quiet), .sc (.int .i64 a.Age)], .box 34 [.arr .u64 12 b.Match.Value, .arr .u64 12 b.Match.Care, .sc (.int .i64 b.Prio), .sl 42 (List.map Act.av b.Acts) false, .sc (.int .i64 b.Idle), .sc (.int .i64 b.Hard), .sc (.int .i64 b.Owner), .sc (.int .i64 b.Hits), .sc (.int .i64 b.Quiet), .sc (.int .i64 b.Age)]]) (by kernel_rfl) rfl ?_
  refine DK.mux 43 ((((((podestaref04_Key a b) && (a.Acts == b.Acts)) && (a.Idle == b.Idle)) && (a.Hard == b.Hard)) && (a.Owner == b.Owner)) && (a.Hits == b.Hits)) (j := 45) (h' := [.box 34 [.arr .u64 12 a.Match.Value, .arr .u64 12 a.Match.Care, .sc (.int .i64 a.Prio), .sl 42 (List.map Act.av a.Acts) false, .sc (.int .i64 a.Idle), .sc (.int .i64 a.Hard), .sc (.int .i64 a.Owner), .sc (.int .i64 a.Hits), .sc (.int .i64 a.Quiet), .sc (.int .i64 a.Age)], .box 34 [.arr .u64 12 b.Match.Value, .arr .u64 12 b.Match.Care, .sc (.int .i64 b.Prio), .sl 42 (List.map Act.av b.Acts) false, .sc (.int .i64 b.Idle), .sc (.int .i64 b.Hard), .sc (.int .i64 b.Owner), .sc (.int .i64 b.Hits), .sc (.int .i64 b.Quiet), .sc (.int .i64 b.Age)]]) (by kernel_rfl) (fun z => [(2, .ptr 0 0 none), (3, .ptr 1 0 none), (49, .sc (.bool (z && (a.Quiet == b.Quiet))))]) ?J6 (fun hb J => ?ht6) (fun hb J => ?hf6)
  case ht6 =>
    exact DK.seg hG 6 [2, 3, 49] (by kernel_rfl) rfl J
  case hf6 =>
    exact DK.seg hG 6 [2, 3, 49] (by kernel_rfl) rfl J
  refine DK.seg hG 1 [2, 3, 50] (t' := [(2, .ptr 0 0 none), (3, .ptr 1 0 none), (50, .sc (.bool (((((((podestaref04_Key a b) && (a.Acts == b.Acts)) && (a.Idle == b.Idle)) && (a.Hard == b.Hard)) && (a.Owner == b.Owner)) && (a.Hits == b.Hits)) && (a.Quiet == b.Quiet))))]) (h' := [.box 34 [.arr .u64 12 a.Match.Value, .arr .u64 12 a.Match.Care, .sc (.int .i64 a.Prio), .sl 42 (List.map Act.av a.Acts) false, .sc (.int .i64 a.Idle), .sc (.int .i64 a.Hard), .sc (.int .i64 a.Owner), .sc (.int .i64 a.Hits), .sc (.int .i64 a.Quiet), .sc (.int .i64 a.Age)], .box 34 [.arr .u64 12 b.Match.Value, .arr .u64 12 b.Match.Care, .sc (.int .i64 b.Prio), .sl 42 (List.map Act.av b.Acts) false, .sc (.int .i64 b.Idle), .sc (.int .i64 b.Hard), .sc (.int .i64 b.Owner), .sc (.int .i64 b.Hits), .sc (.int .i64 b.Quiet), .sc (.int .i64 b.Age)]]) (by kernel_rfl) rfl ?_
  refine DK.mux 50 (((((((podestaref04_Key a b) && (a.Acts == b.Acts)) && (a.Idle == b.Idle)) && (a.Hard == b.Hard)) && (a.Owner == b.Owner)) && (a.Hits == b.Hits)) && (a.Quiet == b.Quiet)) (j := 52) (h' := [.box 34 [.arr .u64 12 a.Match.Value, .arr .u64 12 a.Match.Care, .sc (.int .i64 a.Prio), .sl 42 (List.map Act.av a.Acts) false, .sc (.int .i64 a.Idle), .sc (.int .i64 a.Hard), .sc (.int .i64 a.Owner), .sc (.int .i64 a.Hits), .sc (.int .i64 a.Quiet), .sc (.int .i64 a.Age)], .box 34 [.arr .u64 12 b.Match.Value, .arr .u64 12 b.Match.Care, .sc (.int .i64 b.Prio), .sl 42 (List.map Act.av b.Acts) false, .sc (.int .i64 b.Idle), .sc (.int .i64 b.Hard), .sc (.int .i64 b.Owner), .sc (.int .i64 b.Hits), .sc (.int .i64 b.Quiet), .sc (.int .i64 b.Age)]]) (by kernel_rfl) (fun z => [(56, .sc (.bool (z && (a.Age == b.Age))))]) ?J7 (fun hb J => ?ht7) (fun hb J => ?hf7)
  case ht7 =>
    exact DK.seg hG 6 [56] (by kernel_rfl) rfl J
  case hf7 =>
    exact DK.seg hG 6 [56] (by kernel_rfl) rfl J
  refine DK.seg hG 1 [4] (t' := [(4, .sc (.bool ((((((((podestaref04_Key a b) && (a.Acts == b.Acts)) && (a.Idle == b.Idle)) && (a.Hard == b.Hard)) && (a.Owner == b.Owner)) && (a.Hits == b.Hits)) && (a.Quiet == b.Quiet)) && (a.Age == b.Age))))]) (h' := [.box 34 [.arr .u64 12 a.Match.Value, .arr .u64 12 a.Match.Care, .sc (.int .i64 a.Prio), .sl 42 (List.map Act.av a.Acts) false, .sc (.int .i64 a.Idle), .sc (.int .i64 a.Hard), .sc (.int .i64 a.Owner), .sc (.int .i64 a.Hits), .sc (.int .i64 a.Quiet), .sc (.int .i64 a.Age)], .box 34 [.arr .u64 12 b.Match.Value, .arr .u64 12 b.Match.Care, .sc (.int .i64 b.Prio), .sl 42 (List.map Act.av b.Acts) false, .sc (.int .i64 b.Idle), .sc (.int .i64 b.Hard), .sc (.int .i64 b.Owner), .sc (.int .i64 b.Hits), .sc (.int .i64 b.Quiet), .sc (.int .i64 b.Age)]]) (by kernel_rfl) rfl ?_
  refine DK.done (by kernel_rfl) (by kernel_rfl) ?_
  subst H
  exact AR.ret0 (fn := Try.f47) hG Try.func47 (by kernel_rfl) hc0 (r0 := .sc (.bool ((((((((podestaref04_Key a b) && (a.Acts == b.Acts)) && (a.Idle == b.Idle)) && (a.Hard == b.Hard)) && (a.Owner == b.Owner)) && (a.Hits == b.Hits)) && (a.Quiet == b.Quiet)) && (a.Age == b.Age)))) (by kernel_rfl) (WkV.refl _)
theorem podestaref04_Equal_calls (a : Rule) (b : Rule) : ACalls Try.prog tab.S 47 [Rule.av a, Rule.av b] [] (.sc (.bool (podestaref04_Equal a b))) [] := podestaref04_Equal_walk a b _ rfl

/-! ### podestaref04.Same: function 23 -/
noncomputable def podestaref04_Same_F : Go.Sh.Fn := ⟨23, bodyOf Try.f23, 27⟩
def podestaref04_Same_k0 : List Kd := [.pure, .pure, .pure, .pure, .pure, .pure, .pure, .pure, .pure, .pure]
def podestaref04_Same_l0s (b : List Rule) : List Rule → Nat → Option (Sum (Unit) (Bool))
  | [], i =>
    some (.inl ())
  | x :: rest, i =>
    (ixO b ((i : Nat) : Int)).bind fun x1 =>
    (bif (!(podestaref04_Equal x x1)) then
      some (.inr false)
    else
      podestaref04_Same_l0s b rest (i + 1) )
theorem podestaref04_Same_l0_walk (a : List Rule) (b : List Rule) (f_a : Bool) (f_b : Bool) (r : Bool) (c0 : Ctx) (hc0 : c0.m.length = 0) (res : Sum (Unit) (Bool)) (J : ∀ w : Unit, res = .inl w → AR Try.prog tab podestaref04_Same_F c0 (Rp tab.S c0 (.sc (.bool r)) []) [.code [1, 1, 1]] [] []) (Jr : ∀ w, res = .inr w → w = r) :
    ∀ (rest : List Rule) (i : Nat) (hd : a.drop i = rest) (H : podestaref04_Same_l0s b rest i = some res), AR Try.prog tab podestaref04_Same_F c0 (Rp tab.S c0 (.sc (.bool r)) []) [.code [1, 1, 0, 1, 0, 0], .loop [1, 1, 0, 1, 0], .blk 0, .code [1, 1, 1]] [(0, .sl 34 (List.map Rule.av a) f_a), (1, .sl 34 (List.map Rule.av b) f_b), (5, .sc (.int .i64 ((i : Nat) : Int)))] [] := by
  have hG := tab_ok
  have hm := mixed
  intro rest
  induction rest with
  | nil =>
    intro i hd  H
    rw [podestaref04_Same_l0s] at H
    refine AR.facts 0 rfl fun hf => ?_
    have hlen : a.length ≤ 9223372036854775807 := by have hq := len_ok hf.2.1; rw [List.length_map] at hq; exact hq
    have hge : a.length ≤ i := List.drop_eq_nil_iff.1 hd
    have hc : (decide (((i : Nat) : Int) < (((List.map Rule.av a).length : Nat) : Int))) = false := by rw [List.length_map]; exact decide_eq_false (by omega)
    refine AR.seg hG hm 3 [0, 1, 5, 14] (k' := [.code [1, 1, 0, 1, 0, 0, 0, 1], .code [1, 1, 0, 1, 0, 0, 1], .loop [1, 1, 0, 1, 0], .blk 0, .code [1, 1, 1]]) (t' := [(0, .sl 34 (List.map Rule.av a) f_a), (1, .sl 34 (List.map Rule.av b) f_b), (5, .sc (.int .i64 ((i : Nat) : Int))), (14, .sc (.bool (decide (((i : Nat) : Int) < (((List.map Rule.av a).length : Nat) : Int)))))]) (h' := []) (by kernel_rfl) ?_
    refine AR.cond (.tmp 14) (decide (((i : Nat) : Int) < (((List.map Rule.av a).length : Nat) : Int))) (by kernel_rfl) (by kernel_rfl) (fun hb => ?ht8) (fun hb => ?hf8)
    case ht8 => exact absurd (hb.symm.trans hc) (by decide)
    case hf8 =>
      refine AR.seg hG hm 1 [] (k' := [.code [1, 1, 1]]) (t' := []) (h' := []) (by kernel_rfl) ?_
      refine AR.keep [] (t' := []) (by kernel_rfl) ?_
      exact J () (Option.some.inj H).symm
  | cons x rest ih =>
    intro i hd  H
    rw [podestaref04_Same_l0s] at H
    refine AR.facts 0 rfl fun hf => ?_
    have hlen : a.length ≤ 9223372036854775807 := by have hq := len_ok hf.2.1; rw [List.length_map] at hq; exact hq
    obtain ⟨hlt, hv_i, hd2⟩ := drop_cons hd
    have hc : (decide (((i : Nat) : Int) < (((List.map Rule.av a).length : Nat) : Int))) = true := by rw [List.length_map]; exact decide_eq_true (by omega)
    have hw : IntKind.i64.wrap (((i : Nat) : Int) + 1) = ((i + 1 : Nat) : Int) := wrapI_succ (by omega)
    refine AR.seg hG hm 3 [0, 1, 5, 14] (k' := [.code [1, 1, 0, 1, 0, 0, 0, 1], .code [1, 1, 0, 1, 0, 0, 1], .loop [1, 1, 0, 1, 0], .blk 0, .code [1, 1, 1]]) (t' := [(0, .sl 34 (List.map Rule.av a) f_a), (1, .sl 34 (List.map Rule.av b) f_b), (5, .sc (.int .i64 ((i : Nat) : Int))), (14, .sc (.bool (decide (((i : Nat) : Int) < (((List.map Rule.av a).length : Nat) : Int)))))]) (h' := []) (by kernel_rfl) ?_
    refine AR.cond (.tmp 14) (decide (((i : Nat) : Int) < (((List.map Rule.av a).length : Nat) : Int))) (by kernel_rfl) (by kernel_rfl) (fun hb => ?ht9) (fun hb => ?hf9)
    case ht9 =>
      refine AR.seg hG hm 4 [0, 1, 5] (k' := [.code [1, 1, 0, 1, 0, 0, 1, 0, 0, 0], .code [1, 1, 0, 1, 0, 0, 1, 0, 0, 1], .blk 1, .code [1, 1, 0, 1, 0, 0, 1, 1], .loop [1, 1, 0, 1, 0], .blk 0, .code [1, 1, 1]]) (t' := [(0, .sl 34 (List.map Rule.av a) f_a), (1, .sl 34 (List.map Rule.av b) f_b), (5, .sc (.int .i64 ((i : Nat) : Int)))]) (h' := []) (by kernel_rfl) ?_
      refine AR.reg hm podestaref04_Same_k0 (by kernel_rfl) ?_
      refine DK.seg hG 2 [0, 1, 5, 17, 18] (t' := [(0, .sl 34 (List.map Rule.av a) f_a), (1, .sl 34 (List.map Rule.av b) f_b), (5, .sc (.int .i64 ((i : Nat) : Int))), (17, .sl 34 (List.map Rule.av a) f_a), (18, .sc (.int .i64 ((i : Nat) : Int)))]) (h' := []) (by kernel_rfl) rfl ?_
      refine DK.op' [0, 1, 5, 19] (t' := [(0, .sl 34 (List.map Rule.av a) f_a), (1, .sl 34 (List.map Rule.av b) f_b), (5, .sc (.int .i64 ((i : Nat) : Int))), (19, .ep [.arr .u64 12 x.Match.Value, .arr .u64 12 x.Match.Care, .sc (.int .i64 x.Prio), .sl 42 (List.map Act.av x.Acts) false, .sc (.int .i64 x.Idle), .sc (.int .i64 x.Hard), .sc (.int .i64 x.Owner), .sc (.int .i64 x.Hits), .sc (.int .i64 x.Quiet), .sc (.int .i64 x.Age)] 0 none)]) (h' := []) (LSpec.index' (r := Rule.av x) (fs := [.arr .u64 12 x.Match.Value, .arr .u64 12 x.Match.Care, .sc (.int .i64 x.Prio), .sl 42 (List.map Act.av x.Acts) false, .sc (.int .i64 x.Idle), .sc (.int .i64 x.Hard), .sc (.int .i64 x.Owner), .sc (.int .i64 x.Hits), .sc (.int .i64 x.Quiet), .sc (.int .i64 x.Age)]) hG (rows := List.map Rule.av a) (j := ((i : Nat) : Int)) (by kernel_rfl) (ixO_map hv_i _) (by kernel_rfl)) (by kernel_rfl) rfl (by kernel_rfl) rfl ?_
      refine DK.seg hG 3 [0, 1, 5, 20, 21, 22] (t' := [(0, .sl 34 (List.map Rule.av a) f_a), (1, .sl 34 (List.map Rule.av b) f_b), (5, .sc (.int .i64 ((i : Nat) : Int))), (20, Rule.av x), (21, .sl 34 (List.map Rule.av b) f_b), (22, .sc (.int .i64 ((i : Nat) : Int)))]) (h' := []) (by kernel_rfl) rfl ?_
      obtain ⟨x1, hv, H⟩ := Option.bind_eq_some_iff.1 H
      refine DK.op' [0, 1, 5, 20, 23] (t' := [(0, .sl 34 (List.map Rule.av a) f_a), (1, .sl 34 (List.map Rule.av b) f_b), (5, .sc (.int .i64 ((i : Nat) : Int))), (20, Rule.av x), (23, .ep [.arr .u64 12 x1.Match.Value, .arr .u64 12 x1.Match.Care, .sc (.int .i64 x1.Prio), .sl 42 (List.map Act.av x1.Acts) false, .sc (.int .i64 x1.Idle), .sc (.int .i64 x1.Hard), .sc (.int .i64 x1.Owner), .sc (.int .i64 x1.Hits), .sc (.int .i64 x1.Quiet), .sc (.int .i64 x1.Age)] 0 none)]) (h' := []) (LSpec.index' (r := Rule.av x1) (fs := [.arr .u64 12 x1.Match.Value, .arr .u64 12 x1.Match.Care, .sc (.int .i64 x1.Prio), .sl 42 (List.map Act.av x1.Acts) false, .sc (.int .i64 x1.Idle), .sc (.int .i64 x1.Hard), .sc (.int .i64 x1.Owner), .sc (.int .i64 x1.Hits), .sc (.int .i64 x1.Quiet), .sc (.int .i64 x1.Age)]) hG (rows := List.map Rule.av b) (j := ((i : Nat) : Int)) (by kernel_rfl) (ixO_map hv _) (by kernel_rfl)) (by kernel_rfl) rfl (by kernel_rfl) rfl ?_
      refine DK.seg hG 1 [0, 1, 5, 20, 24] (t' := [(0, .sl 34 (List.map Rule.av a) f_a), (1, .sl 34 (List.map Rule.av b) f_b), (5, .sc (.int .i64 ((i : Nat) : Int))), (20, Rule.av x), (24, Rule.av x1)]) (h' := []) (by kernel_rfl) rfl ?_
      refine DK.op' [0, 1, 5, 25] (t' := [(0, .sl 34 (List.map Rule.av a) f_a), (1, .sl 34 (List.map Rule.av b) f_b), (5, .sc (.int .i64 ((i : Nat) : Int))), (25, .sc (.bool (podestaref04_Equal x x1)))]) (h' := []) (LSpec.callP' (podestaref04_Equal_calls x x1) (by kernel_rfl)) (by kernel_rfl) rfl (by kernel_rfl) rfl ?_
      refine DK.seg hG 1 [0, 1, 5, 26] (t' := [(0, .sl 34 (List.map Rule.av a) f_a), (1, .sl 34 (List.map Rule.av b) f_b), (5, .sc (.int .i64 ((i : Nat) : Int))), (26, .sc (.bool (!(podestaref04_Equal x x1))))]) (h' := []) (by kernel_rfl) rfl ?_
      refine DK.done (by kernel_rfl) (by kernel_rfl) ?_
      refine AR.cond (.tmp 26) (!(podestaref04_Equal x x1)) (by kernel_rfl) (by kernel_rfl) (fun hb => ?ht10) (fun hb => ?hf10)
      case ht10 =>
        replace H := cond_t hb H
        refine AR.seg hG hm 2 [4] (k' := [.code [1, 1, 0, 1, 0, 0, 1, 0, 0, 1, 0, 1], .blk 1, .code [1, 1, 0, 1, 0, 0, 1, 1], .loop [1, 1, 0, 1, 0], .blk 0, .code [1, 1, 1]]) (t' := [(4, .sc (.bool false))]) (h' := []) (by kernel_rfl) ?_
        obtain rfl := Option.some.inj H
        obtain rfl := Jr _ rfl
        exact AR.ret0 (fn := Try.f23) hG Try.func23 (by kernel_rfl) hc0 (r0 := .sc (.bool false)) (by kernel_rfl) (WkV.refl _)
      case hf10 =>
        replace H := cond_f hb H
        refine AR.seg hG hm 3 [0, 1, 5] (k' := [.loop [1, 1, 0, 1, 0], .blk 0, .code [1, 1, 1]]) (t' := [(0, .sl 34 (List.map Rule.av a) f_a), (1, .sl 34 (List.map Rule.av b) f_b), (5, .sc (.int .i64 (IntKind.i64.wrap (((i : Nat) : Int) + 1))))]) (h' := []) (by kernel_rfl) ?_
        refine AR.keep [0, 1, 5] (t' := [(0, .sl 34 (List.map Rule.av a) f_a), (1, .sl 34 (List.map Rule.av b) f_b), (5, .sc (.int .i64 (IntKind.i64.wrap (((i : Nat) : Int) + 1))))]) (by kernel_rfl) ?_
        refine AR.loop_round ?_
        rw [hw]
        exact ih (i + 1) hd2 H
    case hf9 => exact absurd (hc.symm.trans hb) (by decide)

def podestaref04_Same_raw (a : List Rule) (b : List Rule) : Option (Bool) :=
  (bif ((((List.map Rule.av a).length : Nat) : Int) != (((List.map Rule.av b).length : Nat) : Int)) then
    some false
  else
    loopO (podestaref04_Same_l0s b a 0) fun v =>
    some true)
theorem podestaref04_Same_walk (a : List Rule) (b : List Rule) (f_a : Bool) (f_b : Bool) (r : Bool) (H : podestaref04_Same_raw a b = some r) :
    ACalls Try.prog tab.S 23 [.sl 34 (List.map Rule.av a) f_a, .sl 34 (List.map Rule.av b) f_b] [] (.sc (.bool r)) [] := by
  have hG := tab_ok
  have hm := mixed
  refine ACalls.of_AR (G := tab) podestaref04_Same_F (fn := Try.f23) Try.func23 (by kernel_rfl) (by kernel_rfl) (by kernel_rfl) (Nat.le_of_ble_eq_true (by kernel_rfl)) ?_
  intro c0 hc0
  replace hc0 : c0.m.length = 0 := hc0
  rw [podestaref04_Same_raw] at H
  refine AR.seg hG hm 5 [0, 1, 10] (k' := [.code [1, 0, 1], .code [1, 1]]) (t' := [(0, .sl 34 (List.map Rule.av a) f_a), (1, .sl 34 (List.map Rule.av b) f_b), (10, .sc (.bool ((((List.map Rule.av a).length : Nat) : Int) != (((List.map Rule.av b).length : Nat) : Int))))]) (h' := []) (by kernel_rfl) ?_
  refine AR.cond (.tmp 10) ((((List.map Rule.av a).length : Nat) : Int) != (((List.map Rule.av b).length : Nat) : Int)) (by kernel_rfl) (by kernel_rfl) (fun hb => ?ht1) (fun hb => ?hf1)
  case ht1 =>
    replace H := cond_t hb H
    refine AR.seg hG hm 2 [4] (k' := [.code [1, 0, 1, 0, 1], .code [1, 1]]) (t' := [(4, .sc (.bool false))]) (h' := []) (by kernel_rfl) ?_
    obtain rfl := Option.some.inj H
    exact AR.ret0 (fn := Try.f23) hG Try.func23 (by kernel_rfl) hc0 (r0 := .sc (.bool false)) (by kernel_rfl) (WkV.refl _)
  case hf1 =>
    replace H := cond_f hb H
    refine AR.seg hG hm 5 [0, 1, 5] (k' := [.code [1, 1, 0, 1, 0], .blk 0, .code [1, 1, 1]]) (t' := [(0, .sl 34 (List.map Rule.av a) f_a), (1, .sl 34 (List.map Rule.av b) f_b), (5, .sc (.int .i64 0))]) (h' := []) (by kernel_rfl) ?_
    rcases loopO_some H with ⟨v, hv, H⟩ | hv
    case inr =>
      refine AR.into (by kernel_rfl) ?_
      exact podestaref04_Same_l0_walk a b f_a f_b _ c0 hc0 (.inr _) (fun _ e => by cases e) (fun _ e => (Sum.inr.inj e).symm) a 0 rfl hv
    refine AR.into (by kernel_rfl) ?_
    refine podestaref04_Same_l0_walk a b f_a f_b r c0 hc0 (.inl v) (fun w e => ?_) (fun _ e => by cases e) a 0 rfl hv
    have e := Sum.inl.inj e
    subst e
    refine AR.seg hG hm 2 [4] (k' := [.code [1, 1, 1, 1]]) (t' := [(4, .sc (.bool true))]) (h' := []) (by kernel_rfl) ?_
    obtain rfl := Option.some.inj H
    exact AR.ret0 (fn := Try.f23) hG Try.func23 (by kernel_rfl) hc0 (r0 := .sc (.bool true)) (by kernel_rfl) (WkV.refl _)

theorem podestaref04_Same_ok (a b : List Rule) (f_a f_b : Bool) : ACalls Try.prog tab.S 23 [.sl 34 (List.map Rule.av a) f_a, .sl 34 (List.map Rule.av b) f_b] [] (.sc (.bool (zipAll podestaref04_Equal a b))) [] := by
  refine podestaref04_Same_walk a b f_a f_b _ ?_
  rw [podestaref04_Same_raw, len_bne]
  by_cases h : a.length = b.length
  · simp only [h, decide_true, Bool.not_true, cond_false]
    rw [cmp_loop (v := false) (podestaref04_Same_l0s b) b podestaref04_Equal (fun _ => rfl) (fun x r i => by rw [podestaref04_Same_l0s]) a 0 (by omega), List.drop_zero]
    cases zipAll podestaref04_Equal a b <;> rfl
  · rw [zipAll_ne _ h]
    simp only [h, decide_false, Bool.not_false, cond_true]
theorem ref_Equal_eq (a b : Rule) : podestaref04_Equal a b = (a == b) := by
  obtain ⟨⟨v, c⟩, p, ac, i1, h1, o1, h2, q1, g1⟩ := a
  obtain ⟨⟨v', c'⟩, p', ac', i1', h1', o1', h2', q1', g1'⟩ := b
  rw [podestaref04_Equal, podestaref04_Key, Bool.eq_iff_iff]
  simp only [Bool.and_eq_true, beq_iff_eq, Rule.mk.injEq, Cube.mk.injEq]
  constructor
  · rintro ⟨⟨⟨⟨⟨⟨⟨⟨⟨a2, a3⟩, a4⟩, a1⟩, a5⟩, a6⟩, a7⟩, a8⟩, a9⟩, a10⟩
    exact ⟨⟨a2, a3⟩, a4, a1, a5, a6, a7, a8, a9, a10⟩
  · rintro ⟨⟨a2, a3⟩, a4, a1, a5, a6, a7, a8, a9, a10⟩
    exact ⟨⟨⟨⟨⟨⟨⟨⟨⟨a2, a3⟩, a4⟩, a1⟩, a5⟩, a6⟩, a7⟩, a8⟩, a9⟩, a10⟩
theorem ref_Same_eq (a b : List Rule) : zipAll podestaref04_Equal a b = (a == b) := by
  rw [← zipAll_beq]
  exact congrArg (fun f => zipAll f a b) (funext fun x => funext fun y => ref_Equal_eq x y)

/-! ### rule.Same: function 22 -/
noncomputable def rule_Same_F : Go.Sh.Fn := ⟨22, bodyOf Try.f22, 8⟩
def rule_Same_k0 : List Kd := [.pure, .pure, .read, .pure]
def rule_Same (a : List Rule) (b : List Rule) : Bool :=
  (zipAll rule_Equal a b)
theorem rule_Same_walk (a : List Rule) (b : List Rule) (f_a : Bool) (f_b : Bool) (r : Bool) (H : rule_Same a b = r) :
    ACalls Try.prog tab.S 22 [.sl 34 (List.map Rule.av a) f_a, .sl 34 (List.map Rule.av b) f_b] [] (.sc (.bool r)) [] := by
  have hG := tab_ok
  have hm := mixed
  refine ACalls.of_AR (G := tab) rule_Same_F (fn := Try.f22) Try.func22 (by kernel_rfl) (by kernel_rfl) (by kernel_rfl) (Nat.le_of_ble_eq_true (by kernel_rfl)) ?_
  intro c0 hc0
  replace hc0 : c0.m.length = 0 := hc0
  rw [rule_Same] at H
  refine AR.seg hG hm 3 [0, 1] (k' := [.code [1, 0], .code [1, 1]]) (t' := [(0, .sl 34 (List.map Rule.av a) f_a), (1, .sl 34 (List.map Rule.av b) f_b)]) (h' := []) (by kernel_rfl) ?_
  refine AR.reg hm rule_Same_k0 (by kernel_rfl) ?_
  refine DK.seg hG 2 [5, 6] (t' := [(5, .sl 34 (List.map Rule.av a) f_a), (6, .sl 34 (List.map Rule.av b) f_b)]) (h' := []) (by kernel_rfl) rfl ?_
  refine DK.op' [7] (t' := [(7, .sc (.bool (zipAll rule_Equal a b)))]) (h' := []) (LSpec.callF' (caps := []) (slices_EqualFunc__api_Rule_ok a b 46 [] rule_Equal rfl rfl (fun y0 y1 => rule_Equal_calls y0 y1) f_a f_b) (by kernel_rfl) (.same rfl (.same rfl (.fn (caps := []) (by kernel_rfl) .nil))) (by kernel_rfl) rfl rfl) (by kernel_rfl) rfl (by kernel_rfl) rfl ?_
  refine DK.seg hG 1 [4] (t' := [(4, .sc (.bool (zipAll rule_Equal a b)))]) (h' := []) (by kernel_rfl) rfl ?_
  refine DK.done (by kernel_rfl) (by kernel_rfl) ?_
  subst H
  exact AR.ret0 (fn := Try.f22) hG Try.func22 (by kernel_rfl) hc0 (r0 := .sc (.bool (zipAll rule_Equal a b))) (by kernel_rfl) (WkV.refl _)
theorem rule_Same_calls (a : List Rule) (b : List Rule) (f_a : Bool) (f_b : Bool) : ACalls Try.prog tab.S 22 [.sl 34 (List.map Rule.av a) f_a, .sl 34 (List.map Rule.av b) f_b] [] (.sc (.bool (rule_Same a b))) [] := rule_Same_walk a b f_a f_b _ rfl

theorem rule_Same_eq (a b : List Rule) : rule_Same a b = (a == b) := by
  rw [rule_Same, ← zipAll_beq]
  exact congrArg (fun f => zipAll f a b) (funext fun x => funext fun y => rule_Equal_eq x y)

end Go.Proofs.Ytadolbhmdimbkaa

set_option linter.unusedVariables false
set_option linter.unusedSimpArgs false
set_option maxRecDepth 100000
set_option maxHeartbeats 4000000
namespace Go.Proofs.Ytadolbhmdimbkaa
open Go.Sh
/-! ### Tables: strictly in order, one rule for a key -/
abbrev Key3 := Int × List Int × List Int
def RLt (a b : Rule) : Prop := keyC a.key b.key < 0
theorem RLt.trans {a b c : Rule} (h : RLt a b) (k : RLt b c) : RLt a c := good_key.trans _ _ _ h k
theorem RLt.irr (a b : Rule) (h : a.key = b.key) : ¬ RLt a b := by
  intro k
  have := (good_key.eq a.key b.key).2 h
  unfold RLt at k
  omega
theorem RLt.asymm {a b : Rule} (h : RLt a b) : ¬ RLt b a := fun k => RLt.irr a a rfl (h.trans k)
def Srt (l : List Rule) : Prop := l.Pairwise RLt
def look (l : List Rule) (k : Key3) : Option Rule := l.find? (fun r => decide (r.key = k))
theorem look_cons (x : Rule) (l : List Rule) (k : Key3) : look (x :: l) k = if x.key = k then some x else look l k := by
  unfold look
  rw [List.find?_cons]
  by_cases h : x.key = k
  · simp [h]
  · simp [h]
theorem look_append (a b : List Rule) (k : Key3) : look (a ++ b) k = (look a k).or (look b k) := by
  unfold look
  rw [List.find?_append]
theorem look_none {l : List Rule} {k : Key3} (h : ∀ y ∈ l, y.key ≠ k) : look l k = none := by
  unfold look
  rw [List.find?_eq_none]
  intro y hy
  simp [h y hy]
theorem bsF_spec (c : Nat → Bool) (hm : ∀ i j, i ≤ j → c j = true → c i = true) : ∀ (m i j : Nat), i ≤ j → j - i < m → (∀ k, k < i → c k = true) → (∀ k, j ≤ k → c k = false) → (∀ k, k < bsF c m i j → c k = true) ∧ ∀ k, bsF c m i j ≤ k → c k = false
  | 0, i, j, _, h, _, _ => absurd h (by omega)
  | m + 1, i, j, h1, h2, h3, h4 => by
      rw [bsF]
      by_cases hij : i < j
      · rw [if_pos hij]
        cases hc : c ((i + j) / 2)
        · simp only [Bool.false_eq_true, if_false]
          refine bsF_spec c hm m i ((i + j) / 2) (by omega) (by omega) h3 (fun k hk => ?_)
          cases hk2 : c k with
          | false => rfl
          | true => rw [hm _ _ hk hk2] at hc; cases hc
        · simp only [if_true]
          exact bsF_spec c hm m ((i + j) / 2 + 1) j (by omega) (by omega) (fun k hk => hm k ((i + j) / 2) (by omega) hc) h4
      · rw [if_neg hij]
        exact ⟨h3, fun k hk => h4 k (by omega)⟩
theorem srt_get {l : List Rule} (h : Srt l) {i j : Nat} (hij : i < j) (hj : j < l.length) : RLt (l[i]'(by omega)) l[j] := List.pairwise_iff_getElem.1 h i j (by omega) hj hij
theorem bsN_spec {out : List Rule} (h : Srt out) (x : Rule) : (∀ k (hk : k < out.length), k < bsN out x rule_compare → RLt out[k] x) ∧ ∀ k (hk : k < out.length), bsN out x rule_compare ≤ k → ¬ RLt out[k] x := by
  have hl : ∀ k (hk : k < out.length), lowAt out x rule_compare k = true ↔ RLt out[k] x := by
    intro k hk
    unfold lowAt RLt
    rw [List.getElem?_eq_getElem hk]
    simp only [decide_eq_true_eq, compare_key]
  have hl2 : ∀ k, out.length ≤ k → lowAt out x rule_compare k = false := by
    intro k hk
    unfold lowAt
    rw [List.getElem?_eq_none hk]
  have hm : ∀ i j, i ≤ j → lowAt out x rule_compare j = true → lowAt out x rule_compare i = true := by
    intro i j hij hj
    have hjl : j < out.length := by
      by_cases q : j < out.length
      · exact q
      · rw [hl2 j (by omega)] at hj; cases hj
    rcases Nat.lt_or_ge i j with q | q
    · exact (hl i (by omega)).2 ((srt_get h q hjl).trans ((hl j hjl).1 hj))
    · have : i = j := by omega
      subst this; exact hj
  obtain ⟨s1, s2⟩ := bsF_spec (lowAt out x rule_compare) hm (out.length + 1) 0 out.length (by omega) (by omega) (by omega) hl2
  refine ⟨fun k hk hlt => (hl k hk).1 (s1 k hlt), fun k hk hge hlt => ?_⟩
  have := s2 k hge
  rw [(hl k hk).2 hlt] at this
  cases this
theorem not_lt {a b : Rule} (h : ¬ RLt a b) : a.key = b.key ∨ RLt b a := by
  unfold RLt at *
  rcases Int.lt_trichotomy (keyC a.key b.key) 0 with q | q | q
  · exact absurd q h
  · exact .inl ((good_key.eq _ _).1 q)
  · exact .inr ((good_key.anti _ _).1 q)
theorem putR_split {out : List Rule} (h : Srt out) {x : Rule} (hs : rule_Sound x = true) : ∃ A mid B, out = A ++ (mid ++ B) ∧ putR out x = A ++ x :: B ∧ (∀ a ∈ A, RLt a x) ∧ (∀ b ∈ B, RLt x b) ∧ ∀ y ∈ mid, y.key = x.key := by
  obtain ⟨s1, s2⟩ := bsN_spec h x
  have hle := bsN_le out x rule_compare
  generalize hn : bsN out x rule_compare = n at s1 s2 hle
  have hA : ∀ a ∈ out.take n, RLt a x := by
    intro a ha
    obtain ⟨k, hk, rfl⟩ := List.getElem_of_mem ha
    rw [List.getElem_take]
    rw [List.length_take] at hk
    exact s1 k (by omega) (by omega)
  unfold putR
  rw [hs, hn]
  simp only [Bool.not_true, cond_false]
  have hb2 : (bsR out x rule_compare).2 = match out[n]? with | some y => rule_compare y x == 0 | none => false := by
    subst hn
    unfold bsR
    cases out[bsN out x rule_compare]? <;> rfl
  cases hb : (bsR out x rule_compare).2
  · refine ⟨out.take n, [], out.drop n, by simp, rfl, hA, ?_, by simp⟩
    intro b hbm
    obtain ⟨k, hk, rfl⟩ := List.getElem_of_mem hbm
    rw [List.length_drop] at hk
    rw [List.getElem_drop]
    have hlt : n < out.length := by omega
    have h0 : RLt x out[n] := by
      rw [hb2, List.getElem?_eq_getElem hlt] at hb
      rcases not_lt (s2 n hlt (by omega)) with q | q
      · have := (good_key.eq _ _).2 q
        rw [← compare_key] at this
        simp [this] at hb
      · exact q
    rcases Nat.eq_zero_or_pos k with q | q
    · subst q; exact h0
    · exact h0.trans (srt_get h (by omega) (by omega))
  · have hlt : n < out.length := by have := bsR_lt hb; omega
    refine ⟨out.take n, [out[n]], out.drop (n + 1), ?_, ?_, hA, ?_, ?_⟩
    · rw [List.singleton_append, ← List.drop_eq_getElem_cons hlt, List.take_append_drop]
    · rw [cond_true, List.set_eq_take_append_cons_drop, if_pos hlt]
    · intro b hbm
      obtain ⟨k, hk, rfl⟩ := List.getElem_of_mem hbm
      rw [List.length_drop] at hk
      rw [List.getElem_drop]
      rw [hb2, List.getElem?_eq_getElem hlt] at hb
      have h0 : keyC out[n].key x.key = 0 := by rw [← compare_key]; simpa using hb
      have h1 := srt_get h (show n < n + 1 + k by omega) (by omega)
      have h2 := (good_key.eq _ _).1 h0
      unfold RLt at *
      rw [← h2]; exact h1
    · intro y hy
      rw [List.mem_singleton] at hy
      subst hy
      rw [hb2, List.getElem?_eq_getElem hlt] at hb
      exact (good_key.eq _ _).1 (by rw [← compare_key]; simpa using hb)
theorem putR_not {out : List Rule} {x : Rule} (hs : rule_Sound x = false) : putR out x = out := by
  unfold putR
  rw [hs]
  rfl
theorem putR_srt {out : List Rule} (h : Srt out) (x : Rule) : Srt (putR out x) := by
  cases hs : rule_Sound x
  · rw [putR_not hs]; exact h
  · obtain ⟨A, mid, B, e1, e2, e3, e4, _⟩ := putR_split h hs
    rw [e2]
    subst e1
    obtain ⟨p1, p2, p3⟩ := List.pairwise_append.1 h
    obtain ⟨p4, p5, p6⟩ := List.pairwise_append.1 p2
    refine List.pairwise_append.2 ⟨p1, List.pairwise_cons.2 ⟨e4, p5⟩, fun a ha b hb => ?_⟩
    rcases List.mem_cons.1 hb with rfl | hb
    · exact e3 a ha
    · exact (e3 a ha).trans (e4 b hb)
theorem putR_look {out : List Rule} (h : Srt out) (x : Rule) (k : Key3) : look (putR out x) k = if rule_Sound x = true ∧ x.key = k then some x else look out k := by
  cases hs : rule_Sound x
  · rw [putR_not hs, if_neg (by simp)]
  · obtain ⟨A, mid, B, e1, e2, e3, e4, e5⟩ := putR_split h hs
    rw [e2, e1, look_append, look_append, look_append, look_cons]
    by_cases hk : x.key = k
    · rw [if_pos hk, if_pos ⟨rfl, hk⟩, look_none (l := A) (fun y hy e => RLt.irr y x (e.trans hk.symm) (e3 y hy))]
      rfl
    · rw [if_neg hk, if_neg (fun q => hk q.2), look_none (l := mid) (fun y hy e => hk ((e5 y hy).symm.trans e))]
      rfl
theorem putR_mem {out : List Rule} (h : Srt out) {x y : Rule} (hy : y ∈ putR out x) : y ∈ out ∨ (y = x ∧ rule_Sound x = true) := by
  cases hs : rule_Sound x
  · rw [putR_not hs] at hy; exact .inl hy
  · obtain ⟨A, mid, B, e1, e2, _⟩ := putR_split h hs
    rw [e2] at hy
    rw [e1]
    rcases List.mem_append.1 hy with q | q
    · exact .inl (by simp [q])
    · rcases List.mem_cons.1 q with q | q
      · exact .inr ⟨q, rfl⟩
      · exact .inl (by simp [q])
def last (l : List Rule) (k : Key3) : Option Rule := l.foldl (fun acc x => if rule_Sound x = true ∧ x.key = k then some x else acc) none
theorem last_init (l : List Rule) (k : Key3) : ∀ acc : Option Rule, l.foldl (fun acc x => if rule_Sound x = true ∧ x.key = k then some x else acc) acc = (last l k).or acc := by
  unfold last
  induction l with
  | nil => intro acc; simp
  | cons x l ih =>
    intro acc
    rw [List.foldl_cons, List.foldl_cons, ih, ih (if rule_Sound x = true ∧ x.key = k then some x else none)]
    by_cases q : rule_Sound x = true ∧ x.key = k
    · rw [if_pos q, if_pos q]
      cases List.foldl (fun acc x => if rule_Sound x = true ∧ x.key = k then some x else acc) none l <;> rfl
    · rw [if_neg q, if_neg q]
      cases List.foldl (fun acc x => if rule_Sound x = true ∧ x.key = k then some x else acc) none l <;> rfl
theorem last_append (a b : List Rule) (k : Key3) : last (a ++ b) k = (last b k).or (last a k) := by
  unfold last
  rw [List.foldl_append, last_init b]
  rfl
theorem last_cons (x : Rule) (l : List Rule) (k : Key3) : last (x :: l) k = (last l k).or (if rule_Sound x = true ∧ x.key = k then some x else none) := by
  unfold last
  rw [List.foldl_cons, last_init l]
  rfl
theorem fold_srt : ∀ (l out : List Rule), Srt out → Srt (l.foldl putR out)
  | [], out, h => h
  | x :: l, out, h => fold_srt l (putR out x) (putR_srt h x)
theorem fold_look (k : Key3) : ∀ (l out : List Rule), Srt out → look (l.foldl putR out) k = (last l k).or (look out k)
  | [], out, h => rfl
  | x :: l, out, h => by
      rw [List.foldl_cons, fold_look k l _ (putR_srt h x), putR_look h, last_cons]
      by_cases q : rule_Sound x = true ∧ x.key = k
      · rw [if_pos q, if_pos q]; cases last l k <;> rfl
      · rw [if_neg q, if_neg q]; cases last l k <;> rfl
theorem fold_sound : ∀ (l out : List Rule), Srt out → (∀ y ∈ out, rule_Sound y = true) → ∀ y ∈ l.foldl putR out, rule_Sound y = true
  | [], out, _, h => h
  | x :: l, out, hs, h => fold_sound l (putR out x) (putR_srt hs x) (fun y hy => by
      rcases putR_mem hs hy with q | ⟨q, q2⟩
      · exact h y q
      · rw [q]; exact q2)
theorem fold_len : ∀ (l out : List Rule), (l.foldl putR out).length ≤ out.length + l.length
  | [], out => by simp
  | x :: l, out => by
      have h1 := fold_len l (putR out x)
      have h2 := putR_len out x
      rw [List.foldl_cons, List.length_cons]
      omega
theorem sortR_srt (l : List Rule) : Srt (sortR l) := fold_srt l [] List.Pairwise.nil
theorem sortR_sound (l : List Rule) : ∀ y ∈ sortR l, rule_Sound y = true := fold_sound l [] List.Pairwise.nil (by simp)
theorem sortR_look (l : List Rule) (k : Key3) : look (sortR l) k = last l k := by
  unfold sortR
  rw [fold_look k l [] List.Pairwise.nil]
  show (last l k).or none = last l k
  cases last l k <;> rfl
theorem sortR_len (l : List Rule) : (sortR l).length ≤ l.length := by
  have := fold_len l []
  unfold sortR
  simpa using this
theorem last_look : ∀ (l : List Rule), Srt l → (∀ y ∈ l, rule_Sound y = true) → ∀ k, last l k = look l k
  | [], _, _, k => rfl
  | x :: l, h, hs, k => by
      obtain ⟨h1, h2⟩ := List.pairwise_cons.1 h
      rw [last_cons, look_cons, last_look l h2 (fun y hy => hs y (by simp [hy])) k]
      by_cases q : x.key = k
      · rw [if_pos ⟨hs x (by simp), q⟩, if_pos q, look_none (fun y hy e => RLt.irr x y (q.trans e.symm) (h1 y hy))]
        rfl
      · rw [if_neg (fun z => q z.2), if_neg q]
        cases look l k <;> rfl
theorem look_mem {l : List Rule} {k : Key3} {x : Rule} (h : look l k = some x) : x ∈ l := List.mem_of_find?_eq_some h
theorem srt_uniq : ∀ (l r : List Rule), Srt l → Srt r → (∀ k, look l k = look r k) → l = r
  | [], [], _, _, _ => rfl
  | [], y :: r, _, _, h => by
      have := h y.key
      rw [look_cons, if_pos rfl] at this
      cases this
  | x :: l, [], _, _, h => by
      have := h x.key
      rw [look_cons, if_pos rfl] at this
      cases this
  | x :: l, y :: r, hl, hr, h => by
      obtain ⟨l1, l2⟩ := List.pairwise_cons.1 hl
      obtain ⟨r1, r2⟩ := List.pairwise_cons.1 hr
      have hx : x ∈ y :: r := look_mem (k := x.key) (by rw [← h x.key, look_cons, if_pos rfl])
      have hy : y ∈ x :: l := look_mem (k := y.key) (by rw [h y.key, look_cons, if_pos rfl])
      have hxy : x = y := by
        rcases List.mem_cons.1 hx with q | q
        · exact q
        · rcases List.mem_cons.1 hy with q2 | q2
          · exact q2.symm
          · exact absurd (l1 y q2) (RLt.asymm (r1 x q))
      subst hxy
      rw [srt_uniq l r l2 r2 (fun k => ?_)]
      by_cases q : x.key = k
      · rw [look_none (fun y hy e => RLt.irr x y (q.trans e.symm) (l1 y hy)), look_none (fun y hy e => RLt.irr x y (q.trans e.symm) (r1 y hy))]
      · have := h k
        rw [look_cons, look_cons, if_neg q, if_neg q] at this
        exact this
theorem sortR_self {l : List Rule} (h : Srt l) (hs : ∀ y ∈ l, rule_Sound y = true) : sortR l = l :=
  srt_uniq _ _ (sortR_srt l) h (fun k => by rw [sortR_look, last_look l h hs])
theorem sortR_joins (a b : List Rule) : sortR (a ++ b) = sortR (sortR a ++ sortR b) :=
  srt_uniq _ _ (sortR_srt _) (sortR_srt _) (fun k => by
    rw [sortR_look, sortR_look, last_append, last_append, last_look _ (sortR_srt a) (sortR_sound a), last_look _ (sortR_srt b) (sortR_sound b), sortR_look, sortR_look])

end Go.Proofs.Ytadolbhmdimbkaa

set_option linter.unusedVariables false
set_option linter.unusedSimpArgs false
set_option maxRecDepth 100000
set_option maxHeartbeats 4000000
namespace Go.Proofs.Ytadolbhmdimbkaa
open Go.Sh
/-! ### podestalaw05.RuleJoins: function 7 -/
noncomputable def podestalaw05_RuleJoins_F : Go.Sh.Fn := ⟨7, bodyOf Try.f7, 43⟩
def podestalaw05_RuleJoins_k1 : List Kd := [.pure, .pure]
def podestalaw05_RuleJoins_k5 : List Kd := [.pure, .pure, .pure, .pure, .pure, .pure, .pure, .pure, .pure, .pure, .read, .pure, .pure, .pure]
def podestalaw05_RuleJoins_k4 : List Kd := [.pure, .pure, .pure, .pure, .loud, .loud, .pure]
def podestalaw05_RuleJoins_k3 : List Kd := [.pure, .loud, .pure]
def podestalaw05_RuleJoins_k2 : List Kd := [.pure, .pure, .loud, .pure, .loud, .pure]
def podestalaw05_RuleJoins_k0 : List Kd := [.pure, .pure, .pure, .pure, .pure, .pure, .pure, .pure]
def podestalaw05_RuleJoins_raw (a : List Rule) (b : List Rule) : Option (Bool) :=
  (bif ((decide ((((List.map Rule.av a).length : Nat) : Int) > 20)) || (decide ((((List.map Rule.av b).length : Nat) : Int) > 20))) then
    some true
  else
    fitO (([] : List Rule).length + a.length) 272 (
    fitO ((([] : List Rule) ++ a).length + b.length) 272 (
    fitO ((sortR a).length + (sortR b).length) 272 (
    some ((rule_Same (sortR ((([] : List Rule) ++ a) ++ b)) (sortR ((sortR a) ++ (sortR b)))) && (decide ((((List.map Rule.av (sortR ((([] : List Rule) ++ a) ++ b))).length : Nat) : Int) ≤ (((List.map Rule.av ((([] : List Rule) ++ a) ++ b)).length : Nat) : Int))))))))
theorem podestalaw05_RuleJoins_walk (a : List Rule) (b : List Rule) (f_a : Bool) (f_b : Bool) (r : Bool) (H : podestalaw05_RuleJoins_raw a b = some r) :
    ACalls Try.prog tab.S 7 [.sl 34 (List.map Rule.av a) f_a, .sl 34 (List.map Rule.av b) f_b] [] (.sc (.bool r)) [] := by
  have hG := tab_ok
  have hm := mixed
  refine ACalls.of_AR (G := tab) podestalaw05_RuleJoins_F (fn := Try.f7) Try.func7 (by kernel_rfl) (by kernel_rfl) (by kernel_rfl) (Nat.le_of_ble_eq_true (by kernel_rfl)) ?_
  intro c0 hc0
  replace hc0 : c0.m.length = 0 := hc0
  rw [podestalaw05_RuleJoins_raw] at H
  refine AR.seg hG hm 4 [0, 1] (k' := [.code [1, 0, 0], .code [1, 0, 1], .code [1, 1]]) (t' := [(0, .sl 34 (List.map Rule.av a) f_a), (1, .sl 34 (List.map Rule.av b) f_b)]) (h' := []) (by kernel_rfl) ?_
  refine AR.reg hm podestalaw05_RuleJoins_k0 (by kernel_rfl) ?_
  refine DK.seg hG 4 [0, 1, 11] (t' := [(0, .sl 34 (List.map Rule.av a) f_a), (1, .sl 34 (List.map Rule.av b) f_b), (11, .sc (.bool (decide ((((List.map Rule.av a).length : Nat) : Int) > 20))))]) (h' := []) (by kernel_rfl) rfl ?_
  refine DK.mux 11 (decide ((((List.map Rule.av a).length : Nat) : Int) > 20)) (j := 8) (h' := []) (by kernel_rfl) (fun z => [(0, .sl 34 (List.map Rule.av a) f_a), (1, .sl 34 (List.map Rule.av b) f_b), (15, .sc (.bool (z || (decide ((((List.map Rule.av b).length : Nat) : Int) > 20)))))]) ?J1 (fun hb J => ?ht1) (fun hb J => ?hf1)
  case ht1 =>
    exact DK.seg hG 4 [0, 1, 15] (by kernel_rfl) rfl J
  case hf1 =>
    exact DK.seg hG 4 [0, 1, 15] (by kernel_rfl) rfl J
  refine DK.done (by kernel_rfl) (by kernel_rfl) ?_
  refine AR.cond (.tmp 15) ((decide ((((List.map Rule.av a).length : Nat) : Int) > 20)) || (decide ((((List.map Rule.av b).length : Nat) : Int) > 20))) (by kernel_rfl) (by kernel_rfl) (fun hb => ?ht2) (fun hb => ?hf2)
  case ht2 =>
    replace H := cond_t hb H
    refine AR.seg hG hm 1 [] (k' := [.code [1, 0, 1, 0, 0], .code [1, 0, 1, 0, 1], .code [1, 1]]) (t' := []) (h' := []) (by kernel_rfl) ?_
    refine AR.reg hm podestalaw05_RuleJoins_k1 (by kernel_rfl) ?_
    refine DK.op' [16] (t' := [(16, .sc (.bool true))]) (h' := []) (LSpec.callP' (podestalaw05_answers_ok) (by kernel_rfl)) (by kernel_rfl) rfl (by kernel_rfl) rfl ?_
    refine DK.seg hG 1 [4] (t' := [(4, .sc (.bool true))]) (h' := []) (by kernel_rfl) rfl ?_
    refine DK.done (by kernel_rfl) (by kernel_rfl) ?_
    obtain rfl := Option.some.inj H
    exact AR.ret0 (fn := Try.f7) hG Try.func7 (by kernel_rfl) hc0 (r0 := .sc (.bool true)) (by kernel_rfl) (WkV.refl _)
  case hf2 =>
    replace H := cond_f hb H
    refine AR.seg hG hm 2 [0, 1] (k' := [.code [1, 1, 0], .code [1, 1, 1]]) (t' := [(0, .sl 34 (List.map Rule.av a) f_a), (1, .sl 34 (List.map Rule.av b) f_b)]) (h' := []) (by kernel_rfl) ?_
    refine AR.reg hm podestalaw05_RuleJoins_k2 (by kernel_rfl) ?_
    refine DK.seg hG 2 [0, 1, 17, 18] (t' := [(0, .sl 34 (List.map Rule.av a) f_a), (1, .sl 34 (List.map Rule.av b) f_b), (17, .sl 34 (List.map Rule.av []) true), (18, .sl 34 (List.map Rule.av a) f_a)]) (h' := []) (by kernel_rfl) rfl ?_
    obtain ⟨hfit, H⟩ := fitO_some H
    refine DK.op' [0, 1, 19] (t' := [(0, .sl 34 (List.map Rule.av a) f_a), (1, .sl 34 (List.map Rule.av b) f_b), (19, .own 0 1000000)]) (h' := [.row 34 (List.map Rule.av (([] : List Rule) ++ a)) 1000000 true]) (LSpec.appendB hG Rule.av ([] : List Rule) a 34 272 rfl hfit (by kernel_rfl)) (by kernel_rfl) (by kernel_rfl) (by kernel_rfl) rfl ?_
    refine DK.seg hG 1 [0, 1, 19, 20] (t' := [(0, .sl 34 (List.map Rule.av a) f_a), (1, .sl 34 (List.map Rule.av b) f_b), (19, .own 0 1000000), (20, .sl 34 (List.map Rule.av b) f_b)]) (h' := [.row 34 (List.map Rule.av (([] : List Rule) ++ a)) 1000000 true]) (by kernel_rfl) rfl ?_
    obtain ⟨hfit, H⟩ := fitO_some H
    refine DK.op' [0, 1, 21] (t' := [(0, .sl 34 (List.map Rule.av a) f_a), (1, .sl 34 (List.map Rule.av b) f_b), (21, .own 0 1000001)]) (h' := [.row 34 (List.map Rule.av ((([] : List Rule) ++ a) ++ b)) 1000001 true]) (LSpec.append' hG Rule.av (([] : List Rule) ++ a) b 0 1000000 34 272 hfit (by kernel_rfl)) (by kernel_rfl) (by kernel_rfl) (by kernel_rfl) rfl ?_
    refine DK.seg hG 1 [0, 1, 5] (t' := [(0, .sl 34 (List.map Rule.av a) f_a), (1, .sl 34 (List.map Rule.av b) f_b), (5, .own 0 1000001)]) (h' := [.row 34 (List.map Rule.av ((([] : List Rule) ++ a) ++ b)) 1000001 true]) (by kernel_rfl) rfl ?_
    refine DK.done (by kernel_rfl) (by kernel_rfl) ?_
    refine AR.seg hG hm 1 [0, 1, 5] (k' := [.code [1, 1, 1, 0], .code [1, 1, 1, 1]]) (t' := [(0, .sl 34 (List.map Rule.av a) f_a), (1, .sl 34 (List.map Rule.av b) f_b), (5, .own 0 1000001)]) (h' := [.row 34 (List.map Rule.av ((([] : List Rule) ++ a) ++ b)) 1000001 true]) (by kernel_rfl) ?_
    refine AR.reg hm podestalaw05_RuleJoins_k3 (by kernel_rfl) ?_
    refine DK.seg hG 1 [0, 1, 5, 22] (t' := [(0, .sl 34 (List.map Rule.av a) f_a), (1, .sl 34 (List.map Rule.av b) f_b), (5, .own 0 1000001), (22, .own 0 1000001)]) (h' := [.row 34 (List.map Rule.av ((([] : List Rule) ++ a) ++ b)) 1000001 true]) (by kernel_rfl) rfl ?_
    refine DK.op' [0, 1, 5, 23] (t' := [(0, .sl 34 (List.map Rule.av a) f_a), (1, .sl 34 (List.map Rule.av b) f_b), (5, .own 0 1000001), (23, .sl 34 (List.map Rule.av (sortR ((([] : List Rule) ++ a) ++ b))) true)]) (h' := [.row 34 (List.map Rule.av ((([] : List Rule) ++ a) ++ b)) 1000001 false]) (LSpec.callC' [0] (rule_Sort_ok ((([] : List Rule) ++ a) ++ b) false) (by kernel_rfl) (by kernel_rfl)) (by kernel_rfl) (by kernel_rfl) (by kernel_rfl) rfl ?_
    refine DK.seg hG 1 [0, 1, 5, 6] (t' := [(0, .sl 34 (List.map Rule.av a) f_a), (1, .sl 34 (List.map Rule.av b) f_b), (5, .own 0 1000001), (6, .sl 34 (List.map Rule.av (sortR ((([] : List Rule) ++ a) ++ b))) true)]) (h' := [.row 34 (List.map Rule.av ((([] : List Rule) ++ a) ++ b)) 1000001 false]) (by kernel_rfl) rfl ?_
    refine DK.done (by kernel_rfl) (by kernel_rfl) ?_
    refine AR.seg hG hm 1 [0, 1, 5, 6] (k' := [.code [1, 1, 1, 1, 0], .code [1, 1, 1, 1, 1]]) (t' := [(0, .sl 34 (List.map Rule.av a) f_a), (1, .sl 34 (List.map Rule.av b) f_b), (5, .own 0 1000001), (6, .sl 34 (List.map Rule.av (sortR ((([] : List Rule) ++ a) ++ b))) true)]) (h' := [.row 34 (List.map Rule.av ((([] : List Rule) ++ a) ++ b)) 1000001 false]) (by kernel_rfl) ?_
    refine AR.reg hm podestalaw05_RuleJoins_k4 (by kernel_rfl) ?_
    refine DK.seg hG 1 [1, 5, 6, 24] (t' := [(1, .sl 34 (List.map Rule.av b) f_b), (5, .own 0 1000001), (6, .sl 34 (List.map Rule.av (sortR ((([] : List Rule) ++ a) ++ b))) true), (24, .sl 34 (List.map Rule.av a) f_a)]) (h' := [.row 34 (List.map Rule.av ((([] : List Rule) ++ a) ++ b)) 1000001 false]) (by kernel_rfl) rfl ?_
    refine DK.op' [1, 5, 6, 25] (t' := [(1, .sl 34 (List.map Rule.av b) f_b), (5, .own 0 1000001), (6, .sl 34 (List.map Rule.av (sortR ((([] : List Rule) ++ a) ++ b))) true), (25, .sl 34 (List.map Rule.av (sortR a)) true)]) (h' := [.row 34 (List.map Rule.av ((([] : List Rule) ++ a) ++ b)) 1000001 false]) (LSpec.callP' (rule_Sort_ok a f_a) (by kernel_rfl)) (by kernel_rfl) rfl (by kernel_rfl) rfl ?_
    refine DK.seg hG 1 [5, 6, 25, 26] (t' := [(5, .own 0 1000001), (6, .sl 34 (List.map Rule.av (sortR ((([] : List Rule) ++ a) ++ b))) true), (25, .sl 34 (List.map Rule.av (sortR a)) true), (26, .sl 34 (List.map Rule.av b) f_b)]) (h' := [.row 34 (List.map Rule.av ((([] : List Rule) ++ a) ++ b)) 1000001 false]) (by kernel_rfl) rfl ?_
    refine DK.op' [5, 6, 25, 27] (t' := [(5, .own 0 1000001), (6, .sl 34 (List.map Rule.av (sortR ((([] : List Rule) ++ a) ++ b))) true), (25, .sl 34 (List.map Rule.av (sortR a)) true), (27, .sl 34 (List.map Rule.av (sortR b)) true)]) (h' := [.row 34 (List.map Rule.av ((([] : List Rule) ++ a) ++ b)) 1000001 false]) (LSpec.callP' (rule_Sort_ok b f_b) (by kernel_rfl)) (by kernel_rfl) rfl (by kernel_rfl) rfl ?_
    obtain ⟨hfit, H⟩ := fitO_some H
    refine DK.op' [5, 6, 28] (t' := [(5, .own 0 1000001), (6, .sl 34 (List.map Rule.av (sortR ((([] : List Rule) ++ a) ++ b))) true), (28, .own 1 1)]) (h' := [.row 34 (List.map Rule.av ((([] : List Rule) ++ a) ++ b)) 1000001 false, .row 34 (List.map Rule.av ((sortR a) ++ (sortR b))) 1 true]) (LSpec.appendN hG Rule.av (sortR a) (sortR b) 34 272 hfit (by kernel_rfl)) (by kernel_rfl) (by kernel_rfl) (by kernel_rfl) rfl ?_
    refine DK.op' [5, 6, 29] (t' := [(5, .own 0 1000001), (6, .sl 34 (List.map Rule.av (sortR ((([] : List Rule) ++ a) ++ b))) true), (29, .sl 34 (List.map Rule.av (sortR ((sortR a) ++ (sortR b)))) true)]) (h' := [.row 34 (List.map Rule.av ((([] : List Rule) ++ a) ++ b)) 1000001 false, .row 34 (List.map Rule.av ((sortR a) ++ (sortR b))) 1 false]) (LSpec.callC' [1] (rule_Sort_ok ((sortR a) ++ (sortR b)) false) (by kernel_rfl) (by kernel_rfl)) (by kernel_rfl) (by kernel_rfl) (by kernel_rfl) rfl ?_
    refine DK.seg hG 1 [5, 6, 7] (t' := [(5, .own 0 1000001), (6, .sl 34 (List.map Rule.av (sortR ((([] : List Rule) ++ a) ++ b))) true), (7, .sl 34 (List.map Rule.av (sortR ((sortR a) ++ (sortR b)))) true)]) (h' := [.row 34 (List.map Rule.av ((([] : List Rule) ++ a) ++ b)) 1000001 false, .row 34 (List.map Rule.av ((sortR a) ++ (sortR b))) 1 false]) (by kernel_rfl) rfl ?_
    refine DK.done (by kernel_rfl) (by kernel_rfl) ?_
    refine AR.seg hG hm 1 [5, 6, 7] (k' := [.code [1, 1, 1, 1, 1, 0], .code [1, 1, 1, 1, 1, 1]]) (t' := [(5, .own 0 1000001), (6, .sl 34 (List.map Rule.av (sortR ((([] : List Rule) ++ a) ++ b))) true), (7, .sl 34 (List.map Rule.av (sortR ((sortR a) ++ (sortR b)))) true)]) (h' := [.row 34 (List.map Rule.av ((([] : List Rule) ++ a) ++ b)) 1000001 false, .row 34 (List.map Rule.av ((sortR a) ++ (sortR b))) 1 false]) (by kernel_rfl) ?_
    refine AR.reg hm podestalaw05_RuleJoins_k5 (by kernel_rfl) ?_
    refine DK.op' [5, 6, 7, 30] (t' := [(5, .own 0 1000001), (6, .sl 34 (List.map Rule.av (sortR ((([] : List Rule) ++ a) ++ b))) true), (7, .sl 34 (List.map Rule.av (sortR ((sortR a) ++ (sortR b)))) true), (30, .sc (.bool true))]) (h' := [.row 34 (List.map Rule.av ((([] : List Rule) ++ a) ++ b)) 1000001 false, .row 34 (List.map Rule.av ((sortR a) ++ (sortR b))) 1 false]) (LSpec.callP' (podestalaw05_answers_ok) (by kernel_rfl)) (by kernel_rfl) rfl (by kernel_rfl) rfl ?_
    refine DK.seg hG 3 [5, 6, 31, 32, 33] (t' := [(5, .own 0 1000001), (6, .sl 34 (List.map Rule.av (sortR ((([] : List Rule) ++ a) ++ b))) true), (31, .sc (.bool true)), (32, .sl 34 (List.map Rule.av (sortR ((([] : List Rule) ++ a) ++ b))) true), (33, .sl 34 (List.map Rule.av (sortR ((sortR a) ++ (sortR b)))) true)]) (h' := [.row 34 (List.map Rule.av ((([] : List Rule) ++ a) ++ b)) 1000001 false, .row 34 (List.map Rule.av ((sortR a) ++ (sortR b))) 1 false]) (by kernel_rfl) rfl ?_
    refine DK.op' [5, 6, 31, 34] (t' := [(5, .own 0 1000001), (6, .sl 34 (List.map Rule.av (sortR ((([] : List Rule) ++ a) ++ b))) true), (31, .sc (.bool true)), (34, .sc (.bool (rule_Same (sortR ((([] : List Rule) ++ a) ++ b)) (sortR ((sortR a) ++ (sortR b))))))]) (h' := [.row 34 (List.map Rule.av ((([] : List Rule) ++ a) ++ b)) 1000001 false, .row 34 (List.map Rule.av ((sortR a) ++ (sortR b))) 1 false]) (LSpec.callP' (rule_Same_calls (sortR ((([] : List Rule) ++ a) ++ b)) (sortR ((sortR a) ++ (sortR b))) true true) (by kernel_rfl)) (by kernel_rfl) rfl (by kernel_rfl) rfl ?_
    refine DK.seg hG 2 [5, 6, 36] (t' := [(5, .own 0 1000001), (6, .sl 34 (List.map Rule.av (sortR ((([] : List Rule) ++ a) ++ b))) true), (36, .sc (.bool (rule_Same (sortR ((([] : List Rule) ++ a) ++ b)) (sortR ((sortR a) ++ (sortR b))))))]) (h' := [.row 34 (List.map Rule.av ((([] : List Rule) ++ a) ++ b)) 1000001 false, .row 34 (List.map Rule.av ((sortR a) ++ (sortR b))) 1 false]) (by kernel_rfl) rfl ?_
    refine DK.mux 36 (rule_Same (sortR ((([] : List Rule) ++ a) ++ b)) (sortR ((sortR a) ++ (sortR b)))) (j := 13) (h' := [.row 34 (List.map Rule.av ((([] : List Rule) ++ a) ++ b)) 1000001 false, .row 34 (List.map Rule.av ((sortR a) ++ (sortR b))) 1 false]) (by kernel_rfl) (fun z => [(42, .sc (.bool (z && (decide ((((List.map Rule.av (sortR ((([] : List Rule) ++ a) ++ b))).length : Nat) : Int) ≤ (((List.map Rule.av ((([] : List Rule) ++ a) ++ b)).length : Nat) : Int))))))]) ?J3 (fun hb J => ?ht3) (fun hb J => ?hf3)
    case ht3 =>
      exact DK.seg hG 6 [42] (by kernel_rfl) rfl J
    case hf3 =>
      exact DK.seg hG 6 [42] (by kernel_rfl) rfl J
    refine DK.seg hG 1 [4] (t' := [(4, .sc (.bool ((rule_Same (sortR ((([] : List Rule) ++ a) ++ b)) (sortR ((sortR a) ++ (sortR b)))) && (decide ((((List.map Rule.av (sortR ((([] : List Rule) ++ a) ++ b))).length : Nat) : Int) ≤ (((List.map Rule.av ((([] : List Rule) ++ a) ++ b)).length : Nat) : Int))))))]) (h' := [.row 34 (List.map Rule.av ((([] : List Rule) ++ a) ++ b)) 1000001 false, .row 34 (List.map Rule.av ((sortR a) ++ (sortR b))) 1 false]) (by kernel_rfl) rfl ?_
    refine DK.done (by kernel_rfl) (by kernel_rfl) ?_
    obtain rfl := Option.some.inj H
    exact AR.ret0 (fn := Try.f7) hG Try.func7 (by kernel_rfl) hc0 (r0 := .sc (.bool ((rule_Same (sortR ((([] : List Rule) ++ a) ++ b)) (sortR ((sortR a) ++ (sortR b)))) && (decide ((((List.map Rule.av (sortR ((([] : List Rule) ++ a) ++ b))).length : Nat) : Int) ≤ (((List.map Rule.av ((([] : List Rule) ++ a) ++ b)).length : Nat) : Int)))))) (by kernel_rfl) (WkV.refl _)

theorem RuleJoins_true (a b : List Rule) (_ : ∀ y ∈ a, Rule.wf y) (_ : ∀ y ∈ b, Rule.wf y) (_ : a.length * 272 ≤ 140737488355328) (_ : b.length * 272 ≤ 140737488355328) : podestalaw05_RuleJoins_raw a b = some true := by
  rw [podestalaw05_RuleJoins_raw]
  simp only [List.length_map]
  by_cases ha : a.length > 20
  · rw [decide_eq_true (show ((a.length : Nat) : Int) > 20 by omega)]; rfl
  by_cases hb : b.length > 20
  · rw [decide_eq_true (show ((b.length : Nat) : Int) > 20 by omega), Bool.or_true]; rfl
  have h1 := sortR_len a
  have h2 := sortR_len b
  have h3 := sortR_len (a ++ b)
  rw [decide_eq_false (by omega), decide_eq_false (by omega), nil_app, fitO_eq (by rw [List.length_nil]; omega), fitO_eq (by omega), fitO_eq (by omega)]
  simp only [Bool.or_self, cond_false, rule_Same_eq, ← sortR_joins, beq_self_eq_true, Bool.true_and, Option.some.injEq, decide_eq_true_eq]
  omega

end Go.Proofs.Ytadolbhmdimbkaa

set_option linter.unusedVariables false
set_option linter.unusedSimpArgs false
set_option maxRecDepth 100000
set_option maxHeartbeats 4000000
namespace Go.Proofs.Ytadolbhmdimbkaa
open Go.Sh
/-! ### rule.Copy: function 25 -/
noncomputable def rule_Copy_F : Go.Sh.Fn := ⟨25, bodyOf Try.f25, 20⟩
def rule_Copy_k1 : List Kd := [.pure, .read, .pure, .pure, .loud, .pure]
def rule_Copy_k0 : List Kd := [.pure, .pure, .loud, .loud]
def rule_Copy_k2 : List Kd := [.pure, .loud, .pure]
def rule_Copy_l0s : List Rule → List Rule → Option ((List Rule))
  | [], out =>
    some out
  | x :: rest, out =>
    fitO (out.length + [(rule_copied x)].length) 272 (
    rule_Copy_l0s rest (out ++ [(rule_copied x)]))
theorem rule_Copy_l0_walk (list : List Rule) (f_list : Bool) (r : (List Rule)) (c0 : Ctx) (hc0 : c0.m.length = 0) (res : (List Rule)) (J : AR Try.prog tab rule_Copy_F c0 (Rp tab.S c0 (.sl 34 (List.map Rule.av r) true) []) [.code [1, 1, 1]] [(3, .own 0 1000000)] [.row 34 (List.map Rule.av res) 1000000 true]) :
    ∀ (rest : List Rule) (t8 : Nat) (hd : list.drop t8 = rest) (out : List Rule) (H : rule_Copy_l0s rest out = some res), AR Try.prog tab rule_Copy_F c0 (Rp tab.S c0 (.sl 34 (List.map Rule.av r) true) []) [.code [1, 1, 0, 1, 0, 0], .loop [1, 1, 0, 1, 0], .blk 0, .code [1, 1, 1]] [(3, .own 0 1000000), (6, .sl 34 (List.map Rule.av list) f_list), (7, .sc (.int .i64 (((List.map Rule.av list).length : Nat) : Int))), (8, .sc (.int .i64 ((t8 : Nat) : Int)))] [.row 34 (List.map Rule.av out) 1000000 true] := by
  have hG := tab_ok
  have hm := mixed
  intro rest
  induction rest with
  | nil =>
    intro t8 hd out H
    rw [rule_Copy_l0s] at H
    refine AR.facts 6 rfl fun hf => ?_
    have hlen : list.length ≤ 9223372036854775807 := by have hq := len_ok hf.2.1; rw [List.length_map] at hq; exact hq
    have hge : list.length ≤ t8 := List.drop_eq_nil_iff.1 hd
    have hc : (decide (((t8 : Nat) : Int) < (((List.map Rule.av list).length : Nat) : Int))) = false := by rw [List.length_map]; exact decide_eq_false (by omega)
    refine AR.seg hG hm 3 [3, 6, 7, 8, 9] (k' := [.code [1, 1, 0, 1, 0, 0, 1, 0], .code [1, 1, 0, 1, 0, 0, 1, 1], .loop [1, 1, 0, 1, 0], .blk 0, .code [1, 1, 1]]) (t' := [(3, .own 0 1000000), (6, .sl 34 (List.map Rule.av list) f_list), (7, .sc (.int .i64 (((List.map Rule.av list).length : Nat) : Int))), (8, .sc (.int .i64 ((t8 : Nat) : Int))), (9, .sc (.bool (decide (((t8 : Nat) : Int) < (((List.map Rule.av list).length : Nat) : Int)))))]) (h' := [.row 34 (List.map Rule.av out) 1000000 true]) (by kernel_rfl) ?_
    refine AR.cond (.tmp 9) (decide (((t8 : Nat) : Int) < (((List.map Rule.av list).length : Nat) : Int))) (by kernel_rfl) (by kernel_rfl) (fun hb => ?ht5) (fun hb => ?hf5)
    case ht5 => exact absurd (hb.symm.trans hc) (by decide)
    case hf5 =>
      refine AR.seg hG hm 1 [3] (k' := [.code [1, 1, 1]]) (t' := [(3, .own 0 1000000)]) (h' := [.row 34 (List.map Rule.av out) 1000000 true]) (by kernel_rfl) ?_
      refine AR.keep [3] (t' := [(3, .own 0 1000000)]) (by kernel_rfl) ?_
      obtain rfl := Option.some.inj H
      exact J
  | cons x rest ih =>
    intro t8 hd out H
    rw [rule_Copy_l0s] at H
    refine AR.facts 6 rfl fun hf => ?_
    have hlen : list.length ≤ 9223372036854775807 := by have hq := len_ok hf.2.1; rw [List.length_map] at hq; exact hq
    obtain ⟨hlt, hv_t8, hd2⟩ := drop_cons hd
    have hc : (decide (((t8 : Nat) : Int) < (((List.map Rule.av list).length : Nat) : Int))) = true := by rw [List.length_map]; exact decide_eq_true (by omega)
    have hw : IntKind.i64.wrap (((t8 : Nat) : Int) + 1) = ((t8 + 1 : Nat) : Int) := wrapI_succ (by omega)
    refine AR.seg hG hm 3 [3, 6, 7, 8, 9] (k' := [.code [1, 1, 0, 1, 0, 0, 1, 0], .code [1, 1, 0, 1, 0, 0, 1, 1], .loop [1, 1, 0, 1, 0], .blk 0, .code [1, 1, 1]]) (t' := [(3, .own 0 1000000), (6, .sl 34 (List.map Rule.av list) f_list), (7, .sc (.int .i64 (((List.map Rule.av list).length : Nat) : Int))), (8, .sc (.int .i64 ((t8 : Nat) : Int))), (9, .sc (.bool (decide (((t8 : Nat) : Int) < (((List.map Rule.av list).length : Nat) : Int)))))]) (h' := [.row 34 (List.map Rule.av out) 1000000 true]) (by kernel_rfl) ?_
    refine AR.cond (.tmp 9) (decide (((t8 : Nat) : Int) < (((List.map Rule.av list).length : Nat) : Int))) (by kernel_rfl) (by kernel_rfl) (fun hb => ?ht6) (fun hb => ?hf6)
    case ht6 =>
      refine AR.seg hG hm 4 [3, 6, 7, 8] (k' := [.code [1, 1, 0, 1, 0, 0, 1, 1, 0, 0, 0], .code [1, 1, 0, 1, 0, 0, 1, 1, 0, 0, 1], .blk 1, .code [1, 1, 0, 1, 0, 0, 1, 1, 1], .loop [1, 1, 0, 1, 0], .blk 0, .code [1, 1, 1]]) (t' := [(3, .own 0 1000000), (6, .sl 34 (List.map Rule.av list) f_list), (7, .sc (.int .i64 (((List.map Rule.av list).length : Nat) : Int))), (8, .sc (.int .i64 ((t8 : Nat) : Int)))]) (h' := [.row 34 (List.map Rule.av out) 1000000 true]) (by kernel_rfl) ?_
      refine AR.reg hm rule_Copy_k0 (by kernel_rfl) ?_
      refine DK.op' [3, 6, 7, 8, 10] (t' := [(3, .own 0 1000000), (6, .sl 34 (List.map Rule.av list) f_list), (7, .sc (.int .i64 (((List.map Rule.av list).length : Nat) : Int))), (8, .sc (.int .i64 ((t8 : Nat) : Int))), (10, .ep [.arr .u64 12 x.Match.Value, .arr .u64 12 x.Match.Care, .sc (.int .i64 x.Prio), .sl 42 (List.map Act.av x.Acts) false, .sc (.int .i64 x.Idle), .sc (.int .i64 x.Hard), .sc (.int .i64 x.Owner), .sc (.int .i64 x.Hits), .sc (.int .i64 x.Quiet), .sc (.int .i64 x.Age)] 0 none)]) (h' := [.row 34 (List.map Rule.av out) 1000000 true]) (LSpec.index' (r := Rule.av x) (fs := [.arr .u64 12 x.Match.Value, .arr .u64 12 x.Match.Care, .sc (.int .i64 x.Prio), .sl 42 (List.map Act.av x.Acts) false, .sc (.int .i64 x.Idle), .sc (.int .i64 x.Hard), .sc (.int .i64 x.Owner), .sc (.int .i64 x.Hits), .sc (.int .i64 x.Quiet), .sc (.int .i64 x.Age)]) hG (rows := List.map Rule.av list) (j := ((t8 : Nat) : Int)) (by kernel_rfl) (ixO_map hv_t8 _) (by kernel_rfl)) (by kernel_rfl) rfl (by kernel_rfl) rfl ?_
      refine DK.seg hG 3 [3, 5, 6, 7, 8] (t' := [(3, .own 0 1000000), (5, .ptr 1 0 none), (6, .sl 34 (List.map Rule.av list) f_list), (7, .sc (.int .i64 (((List.map Rule.av list).length : Nat) : Int))), (8, .sc (.int .i64 ((t8 : Nat) : Int)))]) (h' := [.row 34 (List.map Rule.av out) 1000000 true, .box 34 [.arr .u64 12 x.Match.Value, .arr .u64 12 x.Match.Care, .sc (.int .i64 x.Prio), .sl 42 (List.map Act.av x.Acts) false, .sc (.int .i64 x.Idle), .sc (.int .i64 x.Hard), .sc (.int .i64 x.Owner), .sc (.int .i64 x.Hits), .sc (.int .i64 x.Quiet), .sc (.int .i64 x.Age)]]) (by kernel_rfl) rfl ?_
      refine DK.done (by kernel_rfl) (by kernel_rfl) ?_
      refine AR.reg hm rule_Copy_k1 (by kernel_rfl) ?_
      refine DK.seg hG 2 [6, 7, 8, 12, 13] (t' := [(6, .sl 34 (List.map Rule.av list) f_list), (7, .sc (.int .i64 (((List.map Rule.av list).length : Nat) : Int))), (8, .sc (.int .i64 ((t8 : Nat) : Int))), (12, .own 0 1000000), (13, Rule.av x)]) (h' := [.row 34 (List.map Rule.av out) 1000000 true, .box 34 [.arr .u64 12 x.Match.Value, .arr .u64 12 x.Match.Care, .sc (.int .i64 x.Prio), .sl 42 (List.map Act.av x.Acts) false, .sc (.int .i64 x.Idle), .sc (.int .i64 x.Hard), .sc (.int .i64 x.Owner), .sc (.int .i64 x.Hits), .sc (.int .i64 x.Quiet), .sc (.int .i64 x.Age)]]) (by kernel_rfl) rfl ?_
      refine DK.op' [6, 7, 8, 12, 14] (t' := [(6, .sl 34 (List.map Rule.av list) f_list), (7, .sc (.int .i64 (((List.map Rule.av list).length : Nat) : Int))), (8, .sc (.int .i64 ((t8 : Nat) : Int))), (12, .own 0 1000000), (14, Rule.av (rule_copied x))]) (h' := [.row 34 (List.map Rule.av out) 1000000 true, .box 34 [.arr .u64 12 x.Match.Value, .arr .u64 12 x.Match.Care, .sc (.int .i64 x.Prio), .sl 42 (List.map Act.av x.Acts) false, .sc (.int .i64 x.Idle), .sc (.int .i64 x.Hard), .sc (.int .i64 x.Owner), .sc (.int .i64 x.Hits), .sc (.int .i64 x.Quiet), .sc (.int .i64 x.Age)]]) (LSpec.callP' (rule_copied_calls x) (by kernel_rfl)) (by kernel_rfl) rfl (by kernel_rfl) rfl ?_
      refine DK.seg hG 1 [6, 7, 8, 12, 15] (t' := [(6, .sl 34 (List.map Rule.av list) f_list), (7, .sc (.int .i64 (((List.map Rule.av list).length : Nat) : Int))), (8, .sc (.int .i64 ((t8 : Nat) : Int))), (12, .own 0 1000000), (15, .sl 34 (List.map Rule.av [(rule_copied x)]) true)]) (h' := [.row 34 (List.map Rule.av out) 1000000 true, .box 34 [.arr .u64 12 x.Match.Value, .arr .u64 12 x.Match.Care, .sc (.int .i64 x.Prio), .sl 42 (List.map Act.av x.Acts) false, .sc (.int .i64 x.Idle), .sc (.int .i64 x.Hard), .sc (.int .i64 x.Owner), .sc (.int .i64 x.Hits), .sc (.int .i64 x.Quiet), .sc (.int .i64 x.Age)]]) (by kernel_rfl) rfl ?_
      obtain ⟨hfit, H⟩ := fitO_some H
      refine DK.op' [6, 7, 8, 16] (t' := [(6, .sl 34 (List.map Rule.av list) f_list), (7, .sc (.int .i64 (((List.map Rule.av list).length : Nat) : Int))), (8, .sc (.int .i64 ((t8 : Nat) : Int))), (16, .own 0 1000001)]) (h' := [.row 34 (List.map Rule.av (out ++ [(rule_copied x)])) 1000001 true, .box 34 [.arr .u64 12 x.Match.Value, .arr .u64 12 x.Match.Care, .sc (.int .i64 x.Prio), .sl 42 (List.map Act.av x.Acts) false, .sc (.int .i64 x.Idle), .sc (.int .i64 x.Hard), .sc (.int .i64 x.Owner), .sc (.int .i64 x.Hits), .sc (.int .i64 x.Quiet), .sc (.int .i64 x.Age)]]) (LSpec.append' hG Rule.av out [(rule_copied x)] 0 1000000 34 272 hfit (by kernel_rfl)) (by kernel_rfl) (by kernel_rfl) (by kernel_rfl) rfl ?_
      refine DK.seg hG 1 [3, 6, 7, 8] (t' := [(3, .own 0 1000001), (6, .sl 34 (List.map Rule.av list) f_list), (7, .sc (.int .i64 (((List.map Rule.av list).length : Nat) : Int))), (8, .sc (.int .i64 ((t8 : Nat) : Int)))]) (h' := [.row 34 (List.map Rule.av (out ++ [(rule_copied x)])) 1000001 true, .box 34 [.arr .u64 12 x.Match.Value, .arr .u64 12 x.Match.Care, .sc (.int .i64 x.Prio), .sl 42 (List.map Act.av x.Acts) false, .sc (.int .i64 x.Idle), .sc (.int .i64 x.Hard), .sc (.int .i64 x.Owner), .sc (.int .i64 x.Hits), .sc (.int .i64 x.Quiet), .sc (.int .i64 x.Age)]]) (by kernel_rfl) rfl ?_
      refine DK.done (by kernel_rfl) (by kernel_rfl) ?_
      refine AR.seg hG hm 2 [3, 6, 7, 8] (k' := [.loop [1, 1, 0, 1, 0], .blk 0, .code [1, 1, 1]]) (t' := [(3, .own 0 1000001), (6, .sl 34 (List.map Rule.av list) f_list), (7, .sc (.int .i64 (((List.map Rule.av list).length : Nat) : Int))), (8, .sc (.int .i64 (IntKind.i64.wrap (((t8 : Nat) : Int) + 1))))]) (h' := [.row 34 (List.map Rule.av (out ++ [(rule_copied x)])) 1000001 true, .box 34 [.arr .u64 12 x.Match.Value, .arr .u64 12 x.Match.Care, .sc (.int .i64 x.Prio), .sl 42 (List.map Act.av x.Acts) false, .sc (.int .i64 x.Idle), .sc (.int .i64 x.Hard), .sc (.int .i64 x.Owner), .sc (.int .i64 x.Hits), .sc (.int .i64 x.Quiet), .sc (.int .i64 x.Age)]]) (by kernel_rfl) ?_
      refine AR.keep [3, 6, 7, 8] (t' := [(3, .own 0 1000001), (6, .sl 34 (List.map Rule.av list) f_list), (7, .sc (.int .i64 (((List.map Rule.av list).length : Nat) : Int))), (8, .sc (.int .i64 (IntKind.i64.wrap (((t8 : Nat) : Int) + 1))))]) (by kernel_rfl) ?_
      refine AR.norm' 0 1000000 hc0 (t' := [(3, .own 0 1000000), (6, .sl 34 (List.map Rule.av list) f_list), (7, .sc (.int .i64 (((List.map Rule.av list).length : Nat) : Int))), (8, .sc (.int .i64 (IntKind.i64.wrap (((t8 : Nat) : Int) + 1))))]) (h' := [.row 34 (List.map Rule.av (out ++ [(rule_copied x)])) 1000000 true, .box 34 [.arr .u64 12 x.Match.Value, .arr .u64 12 x.Match.Care, .sc (.int .i64 x.Prio), .sl 42 (List.map Act.av x.Acts) false, .sc (.int .i64 x.Idle), .sc (.int .i64 x.Hard), .sc (.int .i64 x.Owner), .sc (.int .i64 x.Hits), .sc (.int .i64 x.Quiet), .sc (.int .i64 x.Age)]]) (by kernel_rfl) ?_
      refine AR.drop' 1 hc0 (t' := [(3, .own 0 1000000), (6, .sl 34 (List.map Rule.av list) f_list), (7, .sc (.int .i64 (((List.map Rule.av list).length : Nat) : Int))), (8, .sc (.int .i64 (IntKind.i64.wrap (((t8 : Nat) : Int) + 1))))]) (h' := [.row 34 (List.map Rule.av (out ++ [(rule_copied x)])) 1000000 true]) (by kernel_rfl) ?_
      refine AR.loop_round ?_
      rw [hw]
      exact ih (t8 + 1) hd2 (out ++ [(rule_copied x)]) H
    case hf6 => exact absurd (hc.symm.trans hb) (by decide)

def rule_Copy_raw (list : List Rule) : Option ((List Rule)) :=
  (rule_Copy_l0s list ([] : List Rule)).bind fun v =>
  some v
theorem rule_Copy_walk (list : List Rule) (f_list : Bool) (r : (List Rule)) (H : rule_Copy_raw list = some r) :
    ACalls Try.prog tab.S 25 [.sl 34 (List.map Rule.av list) f_list] [] (.sl 34 (List.map Rule.av r) true) [] := by
  have hG := tab_ok
  have hm := mixed
  refine ACalls.of_AR (G := tab) rule_Copy_F (fn := Try.f25) Try.func25 (by kernel_rfl) (by kernel_rfl) (by kernel_rfl) (Nat.le_of_ble_eq_true (by kernel_rfl)) ?_
  intro c0 hc0
  replace hc0 : c0.m.length = 0 := hc0
  rw [rule_Copy_raw] at H
  refine AR.seg hG hm 8 [3, 6, 7, 8] (k' := [.code [1, 1, 0, 1, 0], .blk 0, .code [1, 1, 1]]) (t' := [(3, .sl 0 [] true), (6, .sl 34 (List.map Rule.av list) f_list), (7, .sc (.int .i64 (((List.map Rule.av list).length : Nat) : Int))), (8, .sc (.int .i64 0))]) (h' := []) (by kernel_rfl) ?_
  refine AR.adoptB' 3 34 (t' := [(3, .own 0 1000000), (6, .sl 34 (List.map Rule.av list) f_list), (7, .sc (.int .i64 (((List.map Rule.av list).length : Nat) : Int))), (8, .sc (.int .i64 0))]) (h' := [.row 34 (List.map Rule.av ([] : List Rule)) 1000000 true]) (by kernel_rfl) ?_
  refine AR.keep [3, 6, 7, 8] (t' := [(3, .own 0 1000000), (6, .sl 34 (List.map Rule.av list) f_list), (7, .sc (.int .i64 (((List.map Rule.av list).length : Nat) : Int))), (8, .sc (.int .i64 0))]) (by kernel_rfl) ?_
  obtain ⟨v, hv, H⟩ := Option.bind_eq_some_iff.1 H
  refine AR.into (by kernel_rfl) ?_
  refine rule_Copy_l0_walk list f_list r c0 hc0 v ?_ list 0 rfl ([] : List Rule) hv
  refine AR.seg hG hm 1 [3] (k' := [.code [1, 1, 1, 0], .code [1, 1, 1, 1]]) (t' := [(3, .own 0 1000000)]) (h' := [.row 34 (List.map Rule.av v) 1000000 true]) (by kernel_rfl) ?_
  refine AR.reg hm rule_Copy_k2 (by kernel_rfl) ?_
  refine DK.seg hG 1 [18] (t' := [(18, .own 0 1000000)]) (h' := [.row 34 (List.map Rule.av v) 1000000 true]) (by kernel_rfl) rfl ?_
  refine DK.op' [19] (t' := [(19, .sl 34 (List.map Rule.av v) true)]) (h' := [.row 34 (List.map Rule.av v) 1000000 false]) (LSpec.callC' [0] (slices_Clip__api_Rule_calls v false) (by kernel_rfl) (by kernel_rfl)) (by kernel_rfl) (by kernel_rfl) (by kernel_rfl) rfl ?_
  refine DK.seg hG 1 [2] (t' := [(2, .sl 34 (List.map Rule.av v) true)]) (h' := [.row 34 (List.map Rule.av v) 1000000 false]) (by kernel_rfl) rfl ?_
  refine DK.done (by kernel_rfl) (by kernel_rfl) ?_
  obtain rfl := Option.some.inj H
  exact AR.ret0 (fn := Try.f25) hG Try.func25 (by kernel_rfl) hc0 (r0 := .sl 34 (List.map Rule.av v) true) (by kernel_rfl) (WkV.refl _)

theorem rule_Copy_l0s_eq : ∀ (l out : List Rule), (out.length + l.length) * 272 ≤ 140737488355328 → rule_Copy_l0s l out = some (out ++ l)
  | [], out, _ => by rw [rule_Copy_l0s, List.append_nil]
  | x :: l, out, h => by
      rw [List.length_cons] at h
      rw [rule_Copy_l0s, fitO_eq (by rw [List.length_cons, List.length_nil]; omega), rule_Copy_l0s_eq l (out ++ [rule_copied x]) (by rw [List.length_append, List.length_cons, List.length_nil]; omega), copied_eq, List.append_assoc]
      rfl
theorem rule_Copy_ok (l : List Rule) (f : Bool) : ACalls Try.prog tab.S 25 [.sl 34 (List.map Rule.av l) f] [] (.sl 34 (List.map Rule.av l) true) [] := by
  refine ACalls.facts (ent_of Try.func25 (by kernel_rfl) (by kernel_rfl)) fun hf => ?_
  have l0 : l.length * 272 ≤ 140737488355328 := by have h := hf.1.1; rw [List.length_map] at h; exact h
  refine rule_Copy_walk l f _ ?_
  rw [rule_Copy_raw, rule_Copy_l0s_eq l [] (by rw [List.length_nil, Nat.zero_add]; exact l0)]
  rfl

/-! ### rule.Table: function 26 -/
noncomputable def rule_Table_F : Go.Sh.Fn := ⟨26, bodyOf Try.f26, 30⟩
def rule_Table_k1 : List Kd := [.read, .pure, .pure, .pure, .pure, .pure, .pure, .pure, .pure, .pure, .pure, .pure, .read, .pure, .pure, .pure, .pure]
def rule_Table_k0 : List Kd := [.pure, .pure, .pure, .loud, .pure, .loud]
def rule_Table_l0s (list : List Rule) : List Rule → Nat → Option (Sum (Unit) (Bool))
  | [], t7 =>
    some (.inl ())
  | x :: rest, t7 =>
    (bif (!(rule_Sound x)) then
      some (.inr false)
    else
      (bif (decide (((t7 : Nat) : Int) > 0)) then
        (ixO list (IntKind.i64.wrap (((t7 : Nat) : Int) - 1))).bind fun x1 =>
        (bif (!(rule_Before x1 x)) then
          some (.inr false)
        else
          rule_Table_l0s list rest (t7 + 1) )
      else
        rule_Table_l0s list rest (t7 + 1) ))
theorem rule_Table_l0_walk (list : List Rule) (f_list : Bool) (r : Bool) (c0 : Ctx) (hc0 : c0.m.length = 0) (res : Sum (Unit) (Bool)) (J : ∀ w : Unit, res = .inl w → AR Try.prog tab rule_Table_F c0 (Rp tab.S c0 (.sc (.bool r)) []) [.code [1, 1]] [] []) (Jr : ∀ w, res = .inr w → w = r) :
    ∀ (rest : List Rule) (t7 : Nat) (hd : list.drop t7 = rest) (H : rule_Table_l0s list rest t7 = some res), AR Try.prog tab rule_Table_F c0 (Rp tab.S c0 (.sc (.bool r)) []) [.code [1, 0, 1, 0, 0], .loop [1, 0, 1, 0], .blk 0, .code [1, 1]] [(0, .sl 34 (List.map Rule.av list) f_list), (5, .sl 34 (List.map Rule.av list) f_list), (6, .sc (.int .i64 (((List.map Rule.av list).length : Nat) : Int))), (7, .sc (.int .i64 ((t7 : Nat) : Int)))] [] := by
  have hG := tab_ok
  have hm := mixed
  intro rest
  induction rest with
  | nil =>
    intro t7 hd  H
    rw [rule_Table_l0s] at H
    refine AR.facts 0 rfl fun hf => ?_
    have hlen : list.length ≤ 9223372036854775807 := by have hq := len_ok hf.2.1; rw [List.length_map] at hq; exact hq
    have hge : list.length ≤ t7 := List.drop_eq_nil_iff.1 hd
    have hc : (decide (((t7 : Nat) : Int) < (((List.map Rule.av list).length : Nat) : Int))) = false := by rw [List.length_map]; exact decide_eq_false (by omega)
    refine AR.seg hG hm 3 [0, 5, 6, 7, 8] (k' := [.code [1, 0, 1, 0, 0, 1, 0], .code [1, 0, 1, 0, 0, 1, 1], .loop [1, 0, 1, 0], .blk 0, .code [1, 1]]) (t' := [(0, .sl 34 (List.map Rule.av list) f_list), (5, .sl 34 (List.map Rule.av list) f_list), (6, .sc (.int .i64 (((List.map Rule.av list).length : Nat) : Int))), (7, .sc (.int .i64 ((t7 : Nat) : Int))), (8, .sc (.bool (decide (((t7 : Nat) : Int) < (((List.map Rule.av list).length : Nat) : Int)))))]) (h' := []) (by kernel_rfl) ?_
    refine AR.cond (.tmp 8) (decide (((t7 : Nat) : Int) < (((List.map Rule.av list).length : Nat) : Int))) (by kernel_rfl) (by kernel_rfl) (fun hb => ?ht13) (fun hb => ?hf13)
    case ht13 => exact absurd (hb.symm.trans hc) (by decide)
    case hf13 =>
      refine AR.seg hG hm 1 [] (k' := [.code [1, 1]]) (t' := []) (h' := []) (by kernel_rfl) ?_
      refine AR.keep [] (t' := []) (by kernel_rfl) ?_
      exact J () (Option.some.inj H).symm
  | cons x rest ih =>
    intro t7 hd  H
    rw [rule_Table_l0s] at H
    refine AR.facts 0 rfl fun hf => ?_
    have hlen : list.length ≤ 9223372036854775807 := by have hq := len_ok hf.2.1; rw [List.length_map] at hq; exact hq
    obtain ⟨hlt, hv_t7, hd2⟩ := drop_cons hd
    have hc : (decide (((t7 : Nat) : Int) < (((List.map Rule.av list).length : Nat) : Int))) = true := by rw [List.length_map]; exact decide_eq_true (by omega)
    have hw : IntKind.i64.wrap (((t7 : Nat) : Int) + 1) = ((t7 + 1 : Nat) : Int) := wrapI_succ (by omega)
    refine AR.seg hG hm 3 [0, 5, 6, 7, 8] (k' := [.code [1, 0, 1, 0, 0, 1, 0], .code [1, 0, 1, 0, 0, 1, 1], .loop [1, 0, 1, 0], .blk 0, .code [1, 1]]) (t' := [(0, .sl 34 (List.map Rule.av list) f_list), (5, .sl 34 (List.map Rule.av list) f_list), (6, .sc (.int .i64 (((List.map Rule.av list).length : Nat) : Int))), (7, .sc (.int .i64 ((t7 : Nat) : Int))), (8, .sc (.bool (decide (((t7 : Nat) : Int) < (((List.map Rule.av list).length : Nat) : Int)))))]) (h' := []) (by kernel_rfl) ?_
    refine AR.cond (.tmp 8) (decide (((t7 : Nat) : Int) < (((List.map Rule.av list).length : Nat) : Int))) (by kernel_rfl) (by kernel_rfl) (fun hb => ?ht14) (fun hb => ?hf14)
    case ht14 =>
      refine AR.seg hG hm 4 [0, 5, 6, 7] (k' := [.code [1, 0, 1, 0, 0, 1, 1, 0, 0, 0], .code [1, 0, 1, 0, 0, 1, 1, 0, 0, 1], .blk 1, .code [1, 0, 1, 0, 0, 1, 1, 1], .loop [1, 0, 1, 0], .blk 0, .code [1, 1]]) (t' := [(0, .sl 34 (List.map Rule.av list) f_list), (5, .sl 34 (List.map Rule.av list) f_list), (6, .sc (.int .i64 (((List.map Rule.av list).length : Nat) : Int))), (7, .sc (.int .i64 ((t7 : Nat) : Int)))]) (h' := []) (by kernel_rfl) ?_
      refine AR.reg hm rule_Table_k0 (by kernel_rfl) ?_
      refine DK.seg hG 1 [0, 5, 6, 7, 9] (t' := [(0, .sl 34 (List.map Rule.av list) f_list), (5, .sl 34 (List.map Rule.av list) f_list), (6, .sc (.int .i64 (((List.map Rule.av list).length : Nat) : Int))), (7, .sc (.int .i64 ((t7 : Nat) : Int))), (9, .sc (.int .i64 ((t7 : Nat) : Int)))]) (h' := []) (by kernel_rfl) rfl ?_
      refine DK.op' [0, 5, 6, 7, 9, 10] (t' := [(0, .sl 34 (List.map Rule.av list) f_list), (5, .sl 34 (List.map Rule.av list) f_list), (6, .sc (.int .i64 (((List.map Rule.av list).length : Nat) : Int))), (7, .sc (.int .i64 ((t7 : Nat) : Int))), (9, .sc (.int .i64 ((t7 : Nat) : Int))), (10, .ep [.arr .u64 12 x.Match.Value, .arr .u64 12 x.Match.Care, .sc (.int .i64 x.Prio), .sl 42 (List.map Act.av x.Acts) false, .sc (.int .i64 x.Idle), .sc (.int .i64 x.Hard), .sc (.int .i64 x.Owner), .sc (.int .i64 x.Hits), .sc (.int .i64 x.Quiet), .sc (.int .i64 x.Age)] 0 none)]) (h' := []) (LSpec.index' (r := Rule.av x) (fs := [.arr .u64 12 x.Match.Value, .arr .u64 12 x.Match.Care, .sc (.int .i64 x.Prio), .sl 42 (List.map Act.av x.Acts) false, .sc (.int .i64 x.Idle), .sc (.int .i64 x.Hard), .sc (.int .i64 x.Owner), .sc (.int .i64 x.Hits), .sc (.int .i64 x.Quiet), .sc (.int .i64 x.Age)]) hG (rows := List.map Rule.av list) (j := ((t7 : Nat) : Int)) (by kernel_rfl) (ixO_map hv_t7 _) (by kernel_rfl)) (by kernel_rfl) rfl (by kernel_rfl) rfl ?_
      refine DK.seg hG 4 [0, 3, 4, 5, 6, 7] (t' := [(0, .sl 34 (List.map Rule.av list) f_list), (3, .sc (.int .i64 ((t7 : Nat) : Int))), (4, .ptr 0 0 none), (5, .sl 34 (List.map Rule.av list) f_list), (6, .sc (.int .i64 (((List.map Rule.av list).length : Nat) : Int))), (7, .sc (.int .i64 ((t7 : Nat) : Int)))]) (h' := [.box 34 [.arr .u64 12 x.Match.Value, .arr .u64 12 x.Match.Care, .sc (.int .i64 x.Prio), .sl 42 (List.map Act.av x.Acts) false, .sc (.int .i64 x.Idle), .sc (.int .i64 x.Hard), .sc (.int .i64 x.Owner), .sc (.int .i64 x.Hits), .sc (.int .i64 x.Quiet), .sc (.int .i64 x.Age)]]) (by kernel_rfl) rfl ?_
      refine DK.done (by kernel_rfl) (by kernel_rfl) ?_
      refine AR.seg hG hm 1 [0, 3, 4, 5, 6, 7] (k' := [.code [1, 0, 1, 0, 0, 1, 1, 0, 0, 1, 0], .code [1, 0, 1, 0, 0, 1, 1, 0, 0, 1, 1], .blk 1, .code [1, 0, 1, 0, 0, 1, 1, 1], .loop [1, 0, 1, 0], .blk 0, .code [1, 1]]) (t' := [(0, .sl 34 (List.map Rule.av list) f_list), (3, .sc (.int .i64 ((t7 : Nat) : Int))), (4, .ptr 0 0 none), (5, .sl 34 (List.map Rule.av list) f_list), (6, .sc (.int .i64 (((List.map Rule.av list).length : Nat) : Int))), (7, .sc (.int .i64 ((t7 : Nat) : Int)))]) (h' := [.box 34 [.arr .u64 12 x.Match.Value, .arr .u64 12 x.Match.Care, .sc (.int .i64 x.Prio), .sl 42 (List.map Act.av x.Acts) false, .sc (.int .i64 x.Idle), .sc (.int .i64 x.Hard), .sc (.int .i64 x.Owner), .sc (.int .i64 x.Hits), .sc (.int .i64 x.Quiet), .sc (.int .i64 x.Age)]]) (by kernel_rfl) ?_
      refine AR.reg hm rule_Table_k1 (by kernel_rfl) ?_
      refine DK.seg hG 1 [0, 3, 4, 5, 6, 7, 12] (t' := [(0, .sl 34 (List.map Rule.av list) f_list), (3, .sc (.int .i64 ((t7 : Nat) : Int))), (4, .ptr 0 0 none), (5, .sl 34 (List.map Rule.av list) f_list), (6, .sc (.int .i64 (((List.map Rule.av list).length : Nat) : Int))), (7, .sc (.int .i64 ((t7 : Nat) : Int))), (12, Rule.av x)]) (h' := [.box 34 [.arr .u64 12 x.Match.Value, .arr .u64 12 x.Match.Care, .sc (.int .i64 x.Prio), .sl 42 (List.map Act.av x.Acts) false, .sc (.int .i64 x.Idle), .sc (.int .i64 x.Hard), .sc (.int .i64 x.Owner), .sc (.int .i64 x.Hits), .sc (.int .i64 x.Quiet), .sc (.int .i64 x.Age)]]) (by kernel_rfl) rfl ?_
      refine DK.op' [0, 3, 4, 5, 6, 7, 13] (t' := [(0, .sl 34 (List.map Rule.av list) f_list), (3, .sc (.int .i64 ((t7 : Nat) : Int))), (4, .ptr 0 0 none), (5, .sl 34 (List.map Rule.av list) f_list), (6, .sc (.int .i64 (((List.map Rule.av list).length : Nat) : Int))), (7, .sc (.int .i64 ((t7 : Nat) : Int))), (13, .sc (.bool (rule_Sound x)))]) (h' := [.box 34 [.arr .u64 12 x.Match.Value, .arr .u64 12 x.Match.Care, .sc (.int .i64 x.Prio), .sl 42 (List.map Act.av x.Acts) false, .sc (.int .i64 x.Idle), .sc (.int .i64 x.Hard), .sc (.int .i64 x.Owner), .sc (.int .i64 x.Hits), .sc (.int .i64 x.Quiet), .sc (.int .i64 x.Age)]]) (LSpec.callP' (rule_Sound_calls x) (by kernel_rfl)) (by kernel_rfl) rfl (by kernel_rfl) rfl ?_
      refine DK.seg hG 2 [0, 3, 4, 5, 6, 7, 15] (t' := [(0, .sl 34 (List.map Rule.av list) f_list), (3, .sc (.int .i64 ((t7 : Nat) : Int))), (4, .ptr 0 0 none), (5, .sl 34 (List.map Rule.av list) f_list), (6, .sc (.int .i64 (((List.map Rule.av list).length : Nat) : Int))), (7, .sc (.int .i64 ((t7 : Nat) : Int))), (15, .sc (.bool (!(rule_Sound x))))]) (h' := [.box 34 [.arr .u64 12 x.Match.Value, .arr .u64 12 x.Match.Care, .sc (.int .i64 x.Prio), .sl 42 (List.map Act.av x.Acts) false, .sc (.int .i64 x.Idle), .sc (.int .i64 x.Hard), .sc (.int .i64 x.Owner), .sc (.int .i64 x.Hits), .sc (.int .i64 x.Quiet), .sc (.int .i64 x.Age)]]) (by kernel_rfl) rfl ?_
      refine DK.split 15 (!(rule_Sound x)) (by kernel_rfl) (fun hb => ?ht15) (fun hb => ?hf15)
      case ht15 =>
        replace H := cond_t hb H
        refine DK.seg hG 13 [0, 5, 6, 7, 28] (t' := [(0, .sl 34 (List.map Rule.av list) f_list), (5, .sl 34 (List.map Rule.av list) f_list), (6, .sc (.int .i64 (((List.map Rule.av list).length : Nat) : Int))), (7, .sc (.int .i64 ((t7 : Nat) : Int))), (28, .sc (.bool true))]) (h' := [.box 34 [.arr .u64 12 x.Match.Value, .arr .u64 12 x.Match.Care, .sc (.int .i64 x.Prio), .sl 42 (List.map Act.av x.Acts) false, .sc (.int .i64 x.Idle), .sc (.int .i64 x.Hard), .sc (.int .i64 x.Owner), .sc (.int .i64 x.Hits), .sc (.int .i64 x.Quiet), .sc (.int .i64 x.Age)]]) (by kernel_rfl) rfl ?_
        refine DK.done (by kernel_rfl) (by kernel_rfl) ?_
        refine AR.seg hG hm 3 [2] (k' := [.code [1, 0, 1, 0, 0, 1, 1, 0, 0, 1, 1, 0, 1], .blk 1, .code [1, 0, 1, 0, 0, 1, 1, 1], .loop [1, 0, 1, 0], .blk 0, .code [1, 1]]) (t' := [(2, .sc (.bool false))]) (h' := [.box 34 [.arr .u64 12 x.Match.Value, .arr .u64 12 x.Match.Care, .sc (.int .i64 x.Prio), .sl 42 (List.map Act.av x.Acts) false, .sc (.int .i64 x.Idle), .sc (.int .i64 x.Hard), .sc (.int .i64 x.Owner), .sc (.int .i64 x.Hits), .sc (.int .i64 x.Quiet), .sc (.int .i64 x.Age)]]) (by kernel_rfl) ?_
        obtain rfl := Option.some.inj H
        obtain rfl := Jr _ rfl
        exact AR.ret0 (fn := Try.f26) hG Try.func26 (by kernel_rfl) hc0 (r0 := .sc (.bool false)) (by kernel_rfl) (WkV.refl _)
      case hf15 =>
        replace H := cond_f hb H
        refine DK.seg hG 3 [0, 3, 4, 5, 6, 7, 15, 18] (t' := [(0, .sl 34 (List.map Rule.av list) f_list), (3, .sc (.int .i64 ((t7 : Nat) : Int))), (4, .ptr 0 0 none), (5, .sl 34 (List.map Rule.av list) f_list), (6, .sc (.int .i64 (((List.map Rule.av list).length : Nat) : Int))), (7, .sc (.int .i64 ((t7 : Nat) : Int))), (15, .sc (.bool false)), (18, .sc (.bool (decide (((t7 : Nat) : Int) > 0))))]) (h' := [.box 34 [.arr .u64 12 x.Match.Value, .arr .u64 12 x.Match.Care, .sc (.int .i64 x.Prio), .sl 42 (List.map Act.av x.Acts) false, .sc (.int .i64 x.Idle), .sc (.int .i64 x.Hard), .sc (.int .i64 x.Owner), .sc (.int .i64 x.Hits), .sc (.int .i64 x.Quiet), .sc (.int .i64 x.Age)]]) (by kernel_rfl) rfl ?_
        refine DK.split 18 (decide (((t7 : Nat) : Int) > 0)) (by kernel_rfl) (fun hb => ?ht16) (fun hb => ?hf16)
        case ht16 =>
          replace H := cond_t hb H
          refine DK.seg hG 3 [0, 4, 5, 6, 7, 15, 18, 19, 21] (t' := [(0, .sl 34 (List.map Rule.av list) f_list), (4, .ptr 0 0 none), (5, .sl 34 (List.map Rule.av list) f_list), (6, .sc (.int .i64 (((List.map Rule.av list).length : Nat) : Int))), (7, .sc (.int .i64 ((t7 : Nat) : Int))), (15, .sc (.bool false)), (18, .sc (.bool true)), (19, .sl 34 (List.map Rule.av list) f_list), (21, .sc (.int .i64 (IntKind.i64.wrap (((t7 : Nat) : Int) - 1))))]) (h' := [.box 34 [.arr .u64 12 x.Match.Value, .arr .u64 12 x.Match.Care, .sc (.int .i64 x.Prio), .sl 42 (List.map Act.av x.Acts) false, .sc (.int .i64 x.Idle), .sc (.int .i64 x.Hard), .sc (.int .i64 x.Owner), .sc (.int .i64 x.Hits), .sc (.int .i64 x.Quiet), .sc (.int .i64 x.Age)]]) (by kernel_rfl) rfl ?_
          obtain ⟨x1, hv, H⟩ := Option.bind_eq_some_iff.1 H
          refine DK.op' [0, 4, 5, 6, 7, 15, 18, 22] (t' := [(0, .sl 34 (List.map Rule.av list) f_list), (4, .ptr 0 0 none), (5, .sl 34 (List.map Rule.av list) f_list), (6, .sc (.int .i64 (((List.map Rule.av list).length : Nat) : Int))), (7, .sc (.int .i64 ((t7 : Nat) : Int))), (15, .sc (.bool false)), (18, .sc (.bool true)), (22, .ep [.arr .u64 12 x1.Match.Value, .arr .u64 12 x1.Match.Care, .sc (.int .i64 x1.Prio), .sl 42 (List.map Act.av x1.Acts) false, .sc (.int .i64 x1.Idle), .sc (.int .i64 x1.Hard), .sc (.int .i64 x1.Owner), .sc (.int .i64 x1.Hits), .sc (.int .i64 x1.Quiet), .sc (.int .i64 x1.Age)] 0 none)]) (h' := [.box 34 [.arr .u64 12 x.Match.Value, .arr .u64 12 x.Match.Care, .sc (.int .i64 x.Prio), .sl 42 (List.map Act.av x.Acts) false, .sc (.int .i64 x.Idle), .sc (.int .i64 x.Hard), .sc (.int .i64 x.Owner), .sc (.int .i64 x.Hits), .sc (.int .i64 x.Quiet), .sc (.int .i64 x.Age)]]) (LSpec.index' (r := Rule.av x1) (fs := [.arr .u64 12 x1.Match.Value, .arr .u64 12 x1.Match.Care, .sc (.int .i64 x1.Prio), .sl 42 (List.map Act.av x1.Acts) false, .sc (.int .i64 x1.Idle), .sc (.int .i64 x1.Hard), .sc (.int .i64 x1.Owner), .sc (.int .i64 x1.Hits), .sc (.int .i64 x1.Quiet), .sc (.int .i64 x1.Age)]) hG (rows := List.map Rule.av list) (j := (IntKind.i64.wrap (((t7 : Nat) : Int) - 1))) (by kernel_rfl) (ixO_map hv _) (by kernel_rfl)) (by kernel_rfl) rfl (by kernel_rfl) rfl ?_
          refine DK.seg hG 2 [0, 5, 6, 7, 15, 18, 23, 24] (t' := [(0, .sl 34 (List.map Rule.av list) f_list), (5, .sl 34 (List.map Rule.av list) f_list), (6, .sc (.int .i64 (((List.map Rule.av list).length : Nat) : Int))), (7, .sc (.int .i64 ((t7 : Nat) : Int))), (15, .sc (.bool false)), (18, .sc (.bool true)), (23, Rule.av x1), (24, Rule.av x)]) (h' := [.box 34 [.arr .u64 12 x.Match.Value, .arr .u64 12 x.Match.Care, .sc (.int .i64 x.Prio), .sl 42 (List.map Act.av x.Acts) false, .sc (.int .i64 x.Idle), .sc (.int .i64 x.Hard), .sc (.int .i64 x.Owner), .sc (.int .i64 x.Hits), .sc (.int .i64 x.Quiet), .sc (.int .i64 x.Age)]]) (by kernel_rfl) rfl ?_
          refine DK.op' [0, 5, 6, 7, 15, 18, 25] (t' := [(0, .sl 34 (List.map Rule.av list) f_list), (5, .sl 34 (List.map Rule.av list) f_list), (6, .sc (.int .i64 (((List.map Rule.av list).length : Nat) : Int))), (7, .sc (.int .i64 ((t7 : Nat) : Int))), (15, .sc (.bool false)), (18, .sc (.bool true)), (25, .sc (.bool (rule_Before x1 x)))]) (h' := [.box 34 [.arr .u64 12 x.Match.Value, .arr .u64 12 x.Match.Care, .sc (.int .i64 x.Prio), .sl 42 (List.map Act.av x.Acts) false, .sc (.int .i64 x.Idle), .sc (.int .i64 x.Hard), .sc (.int .i64 x.Owner), .sc (.int .i64 x.Hits), .sc (.int .i64 x.Quiet), .sc (.int .i64 x.Age)]]) (LSpec.callP' (rule_Before_calls x1 x) (by kernel_rfl)) (by kernel_rfl) rfl (by kernel_rfl) rfl ?_
          refine DK.seg hG 3 [0, 5, 6, 7, 28] (t' := [(0, .sl 34 (List.map Rule.av list) f_list), (5, .sl 34 (List.map Rule.av list) f_list), (6, .sc (.int .i64 (((List.map Rule.av list).length : Nat) : Int))), (7, .sc (.int .i64 ((t7 : Nat) : Int))), (28, .sc (.bool (!(rule_Before x1 x))))]) (h' := [.box 34 [.arr .u64 12 x.Match.Value, .arr .u64 12 x.Match.Care, .sc (.int .i64 x.Prio), .sl 42 (List.map Act.av x.Acts) false, .sc (.int .i64 x.Idle), .sc (.int .i64 x.Hard), .sc (.int .i64 x.Owner), .sc (.int .i64 x.Hits), .sc (.int .i64 x.Quiet), .sc (.int .i64 x.Age)]]) (by kernel_rfl) rfl ?_
          refine DK.done (by kernel_rfl) (by kernel_rfl) ?_
          refine AR.cond (.tmp 28) (!(rule_Before x1 x)) (by kernel_rfl) (by kernel_rfl) (fun hb => ?ht17) (fun hb => ?hf17)
          case ht17 =>
            replace H := cond_t hb H
            refine AR.seg hG hm 2 [2] (k' := [.code [1, 0, 1, 0, 0, 1, 1, 0, 0, 1, 1, 0, 1], .blk 1, .code [1, 0, 1, 0, 0, 1, 1, 1], .loop [1, 0, 1, 0], .blk 0, .code [1, 1]]) (t' := [(2, .sc (.bool false))]) (h' := [.box 34 [.arr .u64 12 x.Match.Value, .arr .u64 12 x.Match.Care, .sc (.int .i64 x.Prio), .sl 42 (List.map Act.av x.Acts) false, .sc (.int .i64 x.Idle), .sc (.int .i64 x.Hard), .sc (.int .i64 x.Owner), .sc (.int .i64 x.Hits), .sc (.int .i64 x.Quiet), .sc (.int .i64 x.Age)]]) (by kernel_rfl) ?_
            obtain rfl := Option.some.inj H
            obtain rfl := Jr _ rfl
            exact AR.ret0 (fn := Try.f26) hG Try.func26 (by kernel_rfl) hc0 (r0 := .sc (.bool false)) (by kernel_rfl) (WkV.refl _)
          case hf17 =>
            replace H := cond_f hb H
            refine AR.seg hG hm 3 [0, 5, 6, 7] (k' := [.loop [1, 0, 1, 0], .blk 0, .code [1, 1]]) (t' := [(0, .sl 34 (List.map Rule.av list) f_list), (5, .sl 34 (List.map Rule.av list) f_list), (6, .sc (.int .i64 (((List.map Rule.av list).length : Nat) : Int))), (7, .sc (.int .i64 (IntKind.i64.wrap (((t7 : Nat) : Int) + 1))))]) (h' := [.box 34 [.arr .u64 12 x.Match.Value, .arr .u64 12 x.Match.Care, .sc (.int .i64 x.Prio), .sl 42 (List.map Act.av x.Acts) false, .sc (.int .i64 x.Idle), .sc (.int .i64 x.Hard), .sc (.int .i64 x.Owner), .sc (.int .i64 x.Hits), .sc (.int .i64 x.Quiet), .sc (.int .i64 x.Age)]]) (by kernel_rfl) ?_
            refine AR.keep [0, 5, 6, 7] (t' := [(0, .sl 34 (List.map Rule.av list) f_list), (5, .sl 34 (List.map Rule.av list) f_list), (6, .sc (.int .i64 (((List.map Rule.av list).length : Nat) : Int))), (7, .sc (.int .i64 (IntKind.i64.wrap (((t7 : Nat) : Int) + 1))))]) (by kernel_rfl) ?_
            refine AR.drop' 0 hc0 (t' := [(0, .sl 34 (List.map Rule.av list) f_list), (5, .sl 34 (List.map Rule.av list) f_list), (6, .sc (.int .i64 (((List.map Rule.av list).length : Nat) : Int))), (7, .sc (.int .i64 (IntKind.i64.wrap (((t7 : Nat) : Int) + 1))))]) (h' := []) (by kernel_rfl) ?_
            refine AR.loop_round ?_
            rw [hw]
            exact ih (t7 + 1) hd2 H
        case hf16 =>
          replace H := cond_f hb H
          refine DK.seg hG 10 [0, 5, 6, 7, 28] (t' := [(0, .sl 34 (List.map Rule.av list) f_list), (5, .sl 34 (List.map Rule.av list) f_list), (6, .sc (.int .i64 (((List.map Rule.av list).length : Nat) : Int))), (7, .sc (.int .i64 ((t7 : Nat) : Int))), (28, .sc (.bool false))]) (h' := [.box 34 [.arr .u64 12 x.Match.Value, .arr .u64 12 x.Match.Care, .sc (.int .i64 x.Prio), .sl 42 (List.map Act.av x.Acts) false, .sc (.int .i64 x.Idle), .sc (.int .i64 x.Hard), .sc (.int .i64 x.Owner), .sc (.int .i64 x.Hits), .sc (.int .i64 x.Quiet), .sc (.int .i64 x.Age)]]) (by kernel_rfl) rfl ?_
          refine DK.done (by kernel_rfl) (by kernel_rfl) ?_
          refine AR.seg hG hm 4 [0, 5, 6, 7] (k' := [.loop [1, 0, 1, 0], .blk 0, .code [1, 1]]) (t' := [(0, .sl 34 (List.map Rule.av list) f_list), (5, .sl 34 (List.map Rule.av list) f_list), (6, .sc (.int .i64 (((List.map Rule.av list).length : Nat) : Int))), (7, .sc (.int .i64 (IntKind.i64.wrap (((t7 : Nat) : Int) + 1))))]) (h' := [.box 34 [.arr .u64 12 x.Match.Value, .arr .u64 12 x.Match.Care, .sc (.int .i64 x.Prio), .sl 42 (List.map Act.av x.Acts) false, .sc (.int .i64 x.Idle), .sc (.int .i64 x.Hard), .sc (.int .i64 x.Owner), .sc (.int .i64 x.Hits), .sc (.int .i64 x.Quiet), .sc (.int .i64 x.Age)]]) (by kernel_rfl) ?_
          refine AR.keep [0, 5, 6, 7] (t' := [(0, .sl 34 (List.map Rule.av list) f_list), (5, .sl 34 (List.map Rule.av list) f_list), (6, .sc (.int .i64 (((List.map Rule.av list).length : Nat) : Int))), (7, .sc (.int .i64 (IntKind.i64.wrap (((t7 : Nat) : Int) + 1))))]) (by kernel_rfl) ?_
          refine AR.drop' 0 hc0 (t' := [(0, .sl 34 (List.map Rule.av list) f_list), (5, .sl 34 (List.map Rule.av list) f_list), (6, .sc (.int .i64 (((List.map Rule.av list).length : Nat) : Int))), (7, .sc (.int .i64 (IntKind.i64.wrap (((t7 : Nat) : Int) + 1))))]) (h' := []) (by kernel_rfl) ?_
          refine AR.loop_round ?_
          rw [hw]
          exact ih (t7 + 1) hd2 H
    case hf14 => exact absurd (hc.symm.trans hb) (by decide)

def rule_Table_raw (list : List Rule) : Option (Bool) :=
  loopO (rule_Table_l0s list list 0) fun v =>
  some true
theorem rule_Table_walk (list : List Rule) (f_list : Bool) (r : Bool) (H : rule_Table_raw list = some r) :
    ACalls Try.prog tab.S 26 [.sl 34 (List.map Rule.av list) f_list] [] (.sc (.bool r)) [] := by
  have hG := tab_ok
  have hm := mixed
  refine ACalls.of_AR (G := tab) rule_Table_F (fn := Try.f26) Try.func26 (by kernel_rfl) (by kernel_rfl) (by kernel_rfl) (Nat.le_of_ble_eq_true (by kernel_rfl)) ?_
  intro c0 hc0
  replace hc0 : c0.m.length = 0 := hc0
  rw [rule_Table_raw] at H
  refine AR.seg hG hm 6 [0, 5, 6, 7] (k' := [.code [1, 0, 1, 0], .blk 0, .code [1, 1]]) (t' := [(0, .sl 34 (List.map Rule.av list) f_list), (5, .sl 34 (List.map Rule.av list) f_list), (6, .sc (.int .i64 (((List.map Rule.av list).length : Nat) : Int))), (7, .sc (.int .i64 0))]) (h' := []) (by kernel_rfl) ?_
  rcases loopO_some H with ⟨v, hv, H⟩ | hv
  case inr =>
    refine AR.into (by kernel_rfl) ?_
    exact rule_Table_l0_walk list f_list _ c0 hc0 (.inr _) (fun _ e => by cases e) (fun _ e => (Sum.inr.inj e).symm) list 0 rfl hv
  refine AR.into (by kernel_rfl) ?_
  refine rule_Table_l0_walk list f_list r c0 hc0 (.inl v) (fun w e => ?_) (fun _ e => by cases e) list 0 rfl hv
  have e := Sum.inl.inj e
  subst e
  refine AR.seg hG hm 2 [2] (k' := [.code [1, 1, 1]]) (t' := [(2, .sc (.bool true))]) (h' := []) (by kernel_rfl) ?_
  obtain rfl := Option.some.inj H
  exact AR.ret0 (fn := Try.f26) hG Try.func26 (by kernel_rfl) hc0 (r0 := .sc (.bool true)) (by kernel_rfl) (WkV.refl _)

def tableF : Option Rule → List Rule → Bool
  | _, [] => true
  | p, x :: l => rule_Sound x && (match p with | some y => rule_Before y x | none => true) && tableF (some x) l
def befO (p : Option Rule) (x : Rule) : Bool := match p with | some y => rule_Before y x | none => true
theorem tableF_cons (p : Option Rule) (x : Rule) (l : List Rule) : tableF p (x :: l) = (rule_Sound x && befO p x && tableF (some x) l) := by cases p <;> rfl
def tableR (l : List Rule) : Bool := tableF none l
theorem rule_Table_l0s_eq (all : List Rule) (hall : all.length ≤ 1000000000000000) : ∀ (l : List Rule) (i : Nat), all.drop i = l → rule_Table_l0s all l i = some (if tableF (if i = 0 then none else all[i - 1]?) l then .inl () else .inr false)
  | [], i, _ => by rw [rule_Table_l0s, tableF]; rfl
  | x :: l, i, h => by
      have hlt : i < all.length := by
        rcases Nat.lt_or_ge i all.length with q | q
        · exact q
        · rw [List.drop_eq_nil_of_le q] at h; cases h
      rw [List.drop_eq_getElem_cons hlt] at h
      injection h with h1 h2
      have ih : rule_Table_l0s all l (i + 1) = some (if tableF (some x) l then .inl () else .inr false) := by
        have q := rule_Table_l0s_eq all hall l (i + 1) h2
        have e : (if i + 1 = 0 then (none : Option Rule) else all[i + 1 - 1]?) = some x := by rw [if_neg (by omega), Nat.add_sub_cancel, List.getElem?_eq_getElem hlt, h1]
        rw [e] at q
        exact q
      rw [rule_Table_l0s, tableF_cons]
      cases hs : rule_Sound x
      · rfl
      · simp only [Bool.not_true, cond_false, Bool.true_and]
        by_cases hi : i = 0
        · subst hi
          rw [decide_eq_false (by omega), cond_false, ih, if_pos rfl]
          rfl
        · rw [decide_eq_true (by omega), cond_true, if_neg hi, wrap_eq (by omega) (by omega)]
          have e : ((i : Nat) : Int) - 1 = ((i - 1 : Nat) : Int) := by omega
          rw [e, ixO_lt (show i - 1 < all.length by omega), Option.bind_some, List.getElem?_eq_getElem (by omega), ih]
          show (bif !(rule_Before all[i - 1] x) then _ else _) = some (if (rule_Before all[i - 1] x && _) = true then _ else _)
          cases rule_Before all[i - 1] x <;> rfl
theorem rule_Table_ok (l : List Rule) (f : Bool) : ACalls Try.prog tab.S 26 [.sl 34 (List.map Rule.av l) f] [] (.sc (.bool (tableR l))) [] := by
  refine ACalls.facts (ent_of Try.func26 (by kernel_rfl) (by kernel_rfl)) fun hf => ?_
  have l0 : l.length * 272 ≤ 140737488355328 := by have h := hf.1.1; rw [List.length_map] at h; exact h
  refine rule_Table_walk l f _ ?_
  rw [rule_Table_raw, rule_Table_l0s_eq l (by omega) l 0 rfl, if_pos rfl]
  unfold tableR
  cases tableF none l <;> rfl

theorem befO_iff (p : Option Rule) (x : Rule) : befO p x = true ↔ ∀ q, p = some q → RLt q x := by
  cases p with
  | none => simp [befO]
  | some q => simp [befO, Before_key, RLt]
theorem tableF_spec : ∀ (l : List Rule) (p : Option Rule), tableF p l = true ↔ (∀ y ∈ l, rule_Sound y = true) ∧ Srt l ∧ ∀ q, p = some q → ∀ y ∈ l, RLt q y
  | [], p => by
      rw [tableF]
      exact ⟨fun _ => ⟨by simp, List.Pairwise.nil, by simp⟩, fun _ => rfl⟩
  | x :: l, p => by
      rw [tableF_cons, Bool.and_eq_true, Bool.and_eq_true, tableF_spec l (some x), befO_iff]
      constructor
      · rintro ⟨⟨h1, h2⟩, h3, h4, h5⟩
        refine ⟨?_, List.pairwise_cons.2 ⟨h5 x rfl, h4⟩, ?_⟩
        · intro y hy
          rcases List.mem_cons.1 hy with rfl | hy
          · exact h1
          · exact h3 y hy
        · intro q hq y hy
          rcases List.mem_cons.1 hy with rfl | hy
          · exact h2 q hq
          · exact (h2 q hq).trans (h5 x rfl y hy)
      · rintro ⟨h1, h2, h3⟩
        obtain ⟨h4, h5⟩ := List.pairwise_cons.1 h2
        exact ⟨⟨h1 x (by simp), fun q hq => h3 q hq x (by simp)⟩, fun y hy => h1 y (by simp [hy]), h5, fun q hq y hy => by
          injection hq with hq
          subst hq
          exact h4 y hy⟩
theorem tableR_iff (l : List Rule) : tableR l = true ↔ (∀ y ∈ l, rule_Sound y = true) ∧ Srt l := by
  unfold tableR
  rw [tableF_spec]
  simp
theorem tableR_sort (l : List Rule) : tableR (sortR l) = true := (tableR_iff _).2 ⟨sortR_sound l, sortR_srt l⟩
theorem sort_again (l : List Rule) (r : Rule) : sortR (sortR (l ++ [r]) ++ [r]) = sortR (l ++ [r]) :=
  srt_uniq _ _ (sortR_srt _) (sortR_srt _) (fun k => by
    rw [sortR_look, sortR_look, last_append, last_look _ (sortR_srt _) (sortR_sound _), sortR_look, last_append]
    cases last [r] k <;> rfl)

end Go.Proofs.Ytadolbhmdimbkaa

set_option linter.unusedVariables false
set_option linter.unusedSimpArgs false
set_option maxRecDepth 100000
set_option maxHeartbeats 4000000
namespace Go.Proofs.Ytadolbhmdimbkaa
open Go.Sh
/-! ### podestaref01.Size: function 54 -/
noncomputable def podestaref01_Size_F : Go.Sh.Fn := ⟨54, bodyOf Try.f54, 13⟩
def podestaref01_Size_k1 : List Kd := [.pure, .pure, .pure, .pure, .pure]
def podestaref01_Size_k0 : List Kd := [.pure, .pure, .pure, .pure, .pure, .pure]
def podestaref01_Size_raw (field : Int) : Option (Int) :=
  (bif ((decide (field < 0)) || (decide (field > 11))) then
    some 0
  else
    (ixO [16, 48, 48, 16, 12, 4, 32, 32, 8, 8, 12, 12] field).bind fun x =>
    some x)
theorem podestaref01_Size_walk (field : Int) (r : Int) (H : podestaref01_Size_raw field = some r) :
    ACalls Try.prog tab.S 54 [.sc (.int .i64 field)] [] (.sc (.int .i64 r)) [] := by
  have hG := tab_ok
  have hm := mixed
  refine ACalls.of_AR (G := tab) podestaref01_Size_F (fn := Try.f54) Try.func54 (by kernel_rfl) (by kernel_rfl) (by kernel_rfl) (Nat.le_of_ble_eq_true (by kernel_rfl)) ?_
  intro c0 hc0
  replace hc0 : c0.m.length = 0 := hc0
  rw [podestaref01_Size_raw] at H
  refine AR.seg hG hm 4 [0] (k' := [.code [1, 0, 0], .code [1, 0, 1], .code [1, 1]]) (t' := [(0, .sc (.int .i64 field))]) (h' := []) (by kernel_rfl) ?_
  refine AR.reg hm podestaref01_Size_k0 (by kernel_rfl) ?_
  refine DK.seg hG 3 [0, 5] (t' := [(0, .sc (.int .i64 field)), (5, .sc (.bool (decide (field < 0))))]) (h' := []) (by kernel_rfl) rfl ?_
  refine DK.mux 5 (decide (field < 0)) (j := 6) (h' := []) (by kernel_rfl) (fun z => [(0, .sc (.int .i64 field)), (8, .sc (.bool (z || (decide (field > 11)))))]) ?J1 (fun hb J => ?ht1) (fun hb J => ?hf1)
  case ht1 =>
    exact DK.seg hG 3 [0, 8] (by kernel_rfl) rfl J
  case hf1 =>
    exact DK.seg hG 3 [0, 8] (by kernel_rfl) rfl J
  refine DK.done (by kernel_rfl) (by kernel_rfl) ?_
  refine AR.cond (.tmp 8) ((decide (field < 0)) || (decide (field > 11))) (by kernel_rfl) (by kernel_rfl) (fun hb => ?ht2) (fun hb => ?hf2)
  case ht2 =>
    replace H := cond_t hb H
    refine AR.seg hG hm 2 [2] (k' := [.code [1, 0, 1, 0, 1], .code [1, 1]]) (t' := [(2, .sc (.int .i64 0))]) (h' := []) (by kernel_rfl) ?_
    obtain rfl := Option.some.inj H
    exact AR.ret0 (fn := Try.f54) hG Try.func54 (by kernel_rfl) hc0 (r0 := .sc (.int .i64 0)) (by kernel_rfl) (WkV.refl _)
  case hf2 =>
    replace H := cond_f hb H
    refine AR.seg hG hm 2 [0] (k' := [.code [1, 1, 0], .code [1, 1, 1]]) (t' := [(0, .sc (.int .i64 field))]) (h' := []) (by kernel_rfl) ?_
    refine AR.reg hm podestaref01_Size_k1 (by kernel_rfl) ?_
    refine DK.seg hG 2 [9, 10] (t' := [(9, .sl 3 (List.map (intA .i64) [16, 48, 48, 16, 12, 4, 32, 32, 8, 8, 12, 12]) true), (10, .sc (.int .i64 field))]) (h' := []) (by kernel_rfl) rfl ?_
    obtain ⟨x, hv, H⟩ := Option.bind_eq_some_iff.1 H
    refine DK.op' [11] (t' := [(11, .ep [.sc (.int .i64 x)] 0 none)]) (h' := []) (LSpec.index' (r := .sc (.int .i64 x)) (fs := [.sc (.int .i64 x)]) hG (rows := List.map (intA .i64) [16, 48, 48, 16, 12, 4, 32, 32, 8, 8, 12, 12]) (j := field) (by kernel_rfl) (ixO_map hv _) (by kernel_rfl)) (by kernel_rfl) rfl (by kernel_rfl) rfl ?_
    refine DK.seg hG 2 [2] (t' := [(2, .sc (.int .i64 x))]) (h' := []) (by kernel_rfl) rfl ?_
    refine DK.done (by kernel_rfl) (by kernel_rfl) ?_
    obtain rfl := Option.some.inj H
    exact AR.ret0 (fn := Try.f54) hG Try.func54 (by kernel_rfl) hc0 (r0 := .sc (.int .i64 x)) (by kernel_rfl) (WkV.refl _)

theorem podestaref01_Size_ok (n : Int) : ACalls Try.prog tab.S 54 [.sc (.int .i64 n)] [] (.sc (.int .i64 (sizeT n))) [] := by
  refine podestaref01_Size_walk n (sizeT n) ?_
  rw [podestaref01_Size_raw]
  rcases sizeT_cases n with ⟨h, e⟩ | ⟨h1, h2, k, rfl, hk, e⟩
  · rw [e]
    have : ((decide (n < 0)) || (decide (n > 11))) = true := by
      rw [Bool.or_eq_true, decide_eq_true_eq, decide_eq_true_eq]; omega
    rw [this]
    rfl
  · rw [e, decide_eq_false (by omega), decide_eq_false (by omega)]
    match k, hk with
    | 0, _ | 1, _ | 2, _ | 3, _ | 4, _ | 5, _ | 6, _ | 7, _ | 8, _ | 9, _ | 10, _ | 11, _ => rfl

/-! ### podestaref01.Fits: function 55 -/
noncomputable def podestaref01_Fits_F : Go.Sh.Fn := ⟨55, bodyOf Try.f55, 10⟩
def podestaref01_Fits_k0 : List Kd := [.pure, .pure, .pure, .pure, .pure, .pure]
def podestaref01_Fits (v : Int) (size : Int) : Bool :=
  (decide (v < (IntKind.u64.wrap (1 * 2 ^ (min ((IntKind.u64.wrap size) : Int).toNat (IntKind.u64).bits)))))
theorem podestaref01_Fits_walk (v : Int) (size : Int) (r : Bool) (H : podestaref01_Fits v size = r) :
    ACalls Try.prog tab.S 55 [.sc (.int .u64 v), .sc (.int .i64 size)] [] (.sc (.bool r)) [] := by
  have hG := tab_ok
  have hm := mixed
  refine ACalls.of_AR (G := tab) podestaref01_Fits_F (fn := Try.f55) Try.func55 (by kernel_rfl) (by kernel_rfl) (by kernel_rfl) (Nat.le_of_ble_eq_true (by kernel_rfl)) ?_
  intro c0 hc0
  replace hc0 : c0.m.length = 0 := hc0
  rw [podestaref01_Fits] at H
  refine AR.seg hG hm 3 [0, 1] (k' := [.code [1, 0], .code [1, 1]]) (t' := [(0, .sc (.int .u64 v)), (1, .sc (.int .i64 size))]) (h' := []) (by kernel_rfl) ?_
  refine AR.reg hm podestaref01_Fits_k0 (by kernel_rfl) ?_
  refine DK.seg hG 3 [5, 7] (t' := [(5, .sc (.int .u64 v)), (7, .sc (.int .u64 (IntKind.u64.wrap size)))]) (h' := []) (by kernel_rfl) rfl ?_
  refine DK.op' [5, 8] (t' := [(5, .sc (.int .u64 v)), (8, .sc (.int .u64 (IntKind.u64.wrap (1 * 2 ^ (min ((IntKind.u64.wrap size) : Int).toNat (IntKind.u64).bits)))))]) (h' := []) (LSpec.shl (k := .u64) (a := 1) (k' := .u64) (b := (IntKind.u64.wrap size)) (wrapU_nonneg _) (by kernel_rfl)) (by kernel_rfl) rfl (by kernel_rfl) rfl ?_
  refine DK.seg hG 2 [4] (t' := [(4, .sc (.bool (decide (v < (IntKind.u64.wrap (1 * 2 ^ (min ((IntKind.u64.wrap size) : Int).toNat (IntKind.u64).bits)))))))]) (h' := []) (by kernel_rfl) rfl ?_
  refine DK.done (by kernel_rfl) (by kernel_rfl) ?_
  subst H
  exact AR.ret0 (fn := Try.f55) hG Try.func55 (by kernel_rfl) hc0 (r0 := .sc (.bool (decide (v < (IntKind.u64.wrap (1 * 2 ^ (min ((IntKind.u64.wrap size) : Int).toNat (IntKind.u64).bits))))))) (by kernel_rfl) (WkV.refl _)
theorem podestaref01_Fits_calls (v : Int) (size : Int) : ACalls Try.prog tab.S 55 [.sc (.int .u64 v), .sc (.int .i64 size)] [] (.sc (.bool (podestaref01_Fits v size))) [] := podestaref01_Fits_walk v size _ rfl

theorem refFits_eq (n v : Int) : podestaref01_Fits v (sizeT n) = fitsT n v := by
  have hs := sizeT_in n
  unfold podestaref01_Fits fitsT
  have h1 : IntKind.u64.wrap (sizeT n) = sizeT n := wrapU_eq hs.1 (by omega)
  have hm : min (sizeT n).toNat (IntKind.u64).bits = (sizeT n).toNat := Nat.min_eq_left (by show _ ≤ 64; omega)
  have hp := pow_le48 (k := (sizeT n).toNat) (by omega)
  have hq := pow_pos2 (sizeT n).toNat
  rw [h1, hm, Int.one_mul, wrapU_eq (by omega) (by omega)]

/-! ### podestaref04.Acts: function 40 -/
noncomputable def podestaref04_Acts_F : Go.Sh.Fn := ⟨40, bodyOf Try.f40, 81⟩
def podestaref04_Acts_k1 : List Kd := [.pure, .read, .pure, .pure, .pure, .read, .pure, .pure, .pure, .pure, .read, .pure, .pure, .pure, .pure, .read, .pure, .pure, .pure]
def podestaref04_Acts_k2 : List Kd := [.pure, .read, .pure, .pure, .pure, .read, .pure, .pure, .pure, .pure, .read, .pure, .pure, .pure, .pure, .read, .pure, .read, .pure, .pure, .pure, .pure]
def podestaref04_Acts_k3 : List Kd := [.pure, .read, .pure, .pure, .pure, .read, .pure, .pure, .pure, .pure, .read, .pure, .pure, .pure]
def podestaref04_Acts_k0 : List Kd := [.pure, .pure, .pure, .pure, .loud, .loud]
def podestaref04_Acts_l0s : List Act → Sum (Unit) (Bool)
  | [] =>
    (.inl ())
  | x :: rest =>
    (bif (!(bif (x.Kind == 1) then ((((decide (x.Port ≥ 1)) && (decide (x.Port ≤ 16))) && (x.Field == 0)) && (x.Value == 0)) else (bif (x.Kind == 2) then ((((x.Port == 0) && (decide (x.Field ≥ 0))) && (decide (x.Field < 12))) && (podestaref01_Fits x.Value (sizeT x.Field))) else ((x.Kind == 3) && (((x.Port == 0) && (x.Field == 0)) && (x.Value == 0)))))) then
      (.inr false)
    else
      podestaref04_Acts_l0s rest )
theorem podestaref04_Acts_l0_walk (l : List Act) (f_l : Bool) (r : Bool) (c0 : Ctx) (hc0 : c0.m.length = 0) (res : Sum (Unit) (Bool)) (J : ∀ w : Unit, res = .inl w → AR Try.prog tab podestaref04_Acts_F c0 (Rp tab.S c0 (.sc (.bool r)) []) [.code [1, 1]] [(0, .sl 42 (List.map Act.av l) f_l)] []) (Jr : ∀ w, res = .inr w → w = r) :
    ∀ (rest : List Act) (i : Nat) (hd : l.drop i = rest) (H : podestaref04_Acts_l0s rest = res), AR Try.prog tab podestaref04_Acts_F c0 (Rp tab.S c0 (.sc (.bool r)) []) [.code [1, 0, 1, 0, 0], .loop [1, 0, 1, 0], .blk 0, .code [1, 1]] [(0, .sl 42 (List.map Act.av l) f_l), (3, .sc (.int .i64 ((i : Nat) : Int)))] [] := by
  have hG := tab_ok
  have hm := mixed
  intro rest
  induction rest with
  | nil =>
    intro i hd  H
    rw [podestaref04_Acts_l0s] at H
    refine AR.facts 0 rfl fun hf => ?_
    have hlen : l.length ≤ 9223372036854775807 := by have hq := len_ok hf.2.1; rw [List.length_map] at hq; exact hq
    have hge : l.length ≤ i := List.drop_eq_nil_iff.1 hd
    have hc : (decide (((i : Nat) : Int) < (((List.map Act.av l).length : Nat) : Int))) = false := by rw [List.length_map]; exact decide_eq_false (by omega)
    refine AR.seg hG hm 3 [0, 3, 9] (k' := [.code [1, 0, 1, 0, 0, 0, 1], .code [1, 0, 1, 0, 0, 1], .loop [1, 0, 1, 0], .blk 0, .code [1, 1]]) (t' := [(0, .sl 42 (List.map Act.av l) f_l), (3, .sc (.int .i64 ((i : Nat) : Int))), (9, .sc (.bool (decide (((i : Nat) : Int) < (((List.map Act.av l).length : Nat) : Int)))))]) (h' := []) (by kernel_rfl) ?_
    refine AR.cond (.tmp 9) (decide (((i : Nat) : Int) < (((List.map Act.av l).length : Nat) : Int))) (by kernel_rfl) (by kernel_rfl) (fun hb => ?ht130) (fun hb => ?hf130)
    case ht130 => exact absurd (hb.symm.trans hc) (by decide)
    case hf130 =>
      refine AR.seg hG hm 1 [0] (k' := [.code [1, 1]]) (t' := [(0, .sl 42 (List.map Act.av l) f_l)]) (h' := []) (by kernel_rfl) ?_
      refine AR.keep [0] (t' := [(0, .sl 42 (List.map Act.av l) f_l)]) (by kernel_rfl) ?_
      exact J () H.symm
  | cons x rest ih =>
    intro i hd  H
    rw [podestaref04_Acts_l0s] at H
    refine AR.facts 0 rfl fun hf => ?_
    have hlen : l.length ≤ 9223372036854775807 := by have hq := len_ok hf.2.1; rw [List.length_map] at hq; exact hq
    obtain ⟨hlt, hv_i, hd2⟩ := drop_cons hd
    have hc : (decide (((i : Nat) : Int) < (((List.map Act.av l).length : Nat) : Int))) = true := by rw [List.length_map]; exact decide_eq_true (by omega)
    have hw : IntKind.i64.wrap (((i : Nat) : Int) + 1) = ((i + 1 : Nat) : Int) := wrapI_succ (by omega)
    refine AR.seg hG hm 3 [0, 3, 9] (k' := [.code [1, 0, 1, 0, 0, 0, 1], .code [1, 0, 1, 0, 0, 1], .loop [1, 0, 1, 0], .blk 0, .code [1, 1]]) (t' := [(0, .sl 42 (List.map Act.av l) f_l), (3, .sc (.int .i64 ((i : Nat) : Int))), (9, .sc (.bool (decide (((i : Nat) : Int) < (((List.map Act.av l).length : Nat) : Int)))))]) (h' := []) (by kernel_rfl) ?_
    refine AR.cond (.tmp 9) (decide (((i : Nat) : Int) < (((List.map Act.av l).length : Nat) : Int))) (by kernel_rfl) (by kernel_rfl) (fun hb => ?ht131) (fun hb => ?hf131)
    case ht131 =>
      refine AR.seg hG hm 4 [0, 3] (k' := [.code [1, 0, 1, 0, 0, 1, 0, 0, 0], .code [1, 0, 1, 0, 0, 1, 0, 0, 1], .blk 1, .code [1, 0, 1, 0, 0, 1, 1], .loop [1, 0, 1, 0], .blk 0, .code [1, 1]]) (t' := [(0, .sl 42 (List.map Act.av l) f_l), (3, .sc (.int .i64 ((i : Nat) : Int)))]) (h' := []) (by kernel_rfl) ?_
      refine AR.reg hm podestaref04_Acts_k0 (by kernel_rfl) ?_
      refine DK.seg hG 2 [0, 3, 12, 13] (t' := [(0, .sl 42 (List.map Act.av l) f_l), (3, .sc (.int .i64 ((i : Nat) : Int))), (12, .sl 42 (List.map Act.av l) f_l), (13, .sc (.int .i64 ((i : Nat) : Int)))]) (h' := []) (by kernel_rfl) rfl ?_
      refine DK.op' [0, 3, 14] (t' := [(0, .sl 42 (List.map Act.av l) f_l), (3, .sc (.int .i64 ((i : Nat) : Int))), (14, .ep [.sc (.int .i64 x.Kind), .sc (.int .i64 x.Port), .sc (.int .i64 x.Field), .sc (.int .u64 x.Value)] 0 none)]) (h' := []) (LSpec.index' (r := Act.av x) (fs := [.sc (.int .i64 x.Kind), .sc (.int .i64 x.Port), .sc (.int .i64 x.Field), .sc (.int .u64 x.Value)]) hG (rows := List.map Act.av l) (j := ((i : Nat) : Int)) (by kernel_rfl) (ixO_map hv_i _) (by kernel_rfl)) (by kernel_rfl) rfl (by kernel_rfl) rfl ?_
      refine DK.seg hG 3 [0, 3, 4] (t' := [(0, .sl 42 (List.map Act.av l) f_l), (3, .sc (.int .i64 ((i : Nat) : Int))), (4, .ptr 0 0 none)]) (h' := [.box 42 [.sc (.int .i64 x.Kind), .sc (.int .i64 x.Port), .sc (.int .i64 x.Field), .sc (.int .u64 x.Value)]]) (by kernel_rfl) rfl ?_
      refine DK.done (by kernel_rfl) (by kernel_rfl) ?_
      refine AR.seg hG hm 8 [0, 3, 4, 5, 17, 18] (k' := [.code [1, 0, 1, 0, 0, 1, 0, 0, 1, 1, 0, 1, 0, 1], .blk 2, .code [1, 0, 1, 0, 0, 1, 0, 0, 1, 1, 1], .blk 1, .code [1, 0, 1, 0, 0, 1, 1], .loop [1, 0, 1, 0], .blk 0, .code [1, 1]]) (t' := [(0, .sl 42 (List.map Act.av l) f_l), (3, .sc (.int .i64 ((i : Nat) : Int))), (4, .ptr 0 0 none), (5, .sc (.bool false)), (17, .sc (.int .i64 x.Kind)), (18, .sc (.bool (x.Kind == 1)))]) (h' := [.box 42 [.sc (.int .i64 x.Kind), .sc (.int .i64 x.Port), .sc (.int .i64 x.Field), .sc (.int .u64 x.Value)]]) (by kernel_rfl) ?_
      refine AR.join (.tmp 18) (x.Kind == 1) (k' := [.blk 2, .code [1, 0, 1, 0, 0, 1, 0, 0, 1, 1, 1], .blk 1, .code [1, 0, 1, 0, 0, 1, 1], .loop [1, 0, 1, 0], .blk 0, .code [1, 1]]) (h' := [.box 42 [.sc (.int .i64 x.Kind), .sc (.int .i64 x.Port), .sc (.int .i64 x.Field), .sc (.int .u64 x.Value)]]) (by kernel_rfl) (by kernel_rfl) (fun z => [(0, .sl 42 (List.map Act.av l) f_l), (3, .sc (.int .i64 ((i : Nat) : Int))), (5, .sc (.bool (bif z then ((((decide (x.Port ≥ 1)) && (decide (x.Port ≤ 16))) && (x.Field == 0)) && (x.Value == 0)) else (bif (x.Kind == 2) then ((((x.Port == 0) && (decide (x.Field ≥ 0))) && (decide (x.Field < 12))) && (podestaref01_Fits x.Value (sizeT x.Field))) else ((x.Kind == 3) && (((x.Port == 0) && (x.Field == 0)) && (x.Value == 0)))))))]) ?J152 (fun hb J => ?ht152) (fun hb J => ?hf152)
      case ht152 =>
        refine AR.reg hm podestaref04_Acts_k1 (by kernel_rfl) ?_
        refine DK.seg hG 4 [0, 3, 4, 23] (t' := [(0, .sl 42 (List.map Act.av l) f_l), (3, .sc (.int .i64 ((i : Nat) : Int))), (4, .ptr 0 0 none), (23, .sc (.bool (decide (x.Port ≥ 1))))]) (h' := [.box 42 [.sc (.int .i64 x.Kind), .sc (.int .i64 x.Port), .sc (.int .i64 x.Field), .sc (.int .u64 x.Value)]]) (by kernel_rfl) rfl ?_
        refine DK.mux 23 (decide (x.Port ≥ 1)) (j := 8) (h' := [.box 42 [.sc (.int .i64 x.Kind), .sc (.int .i64 x.Port), .sc (.int .i64 x.Field), .sc (.int .u64 x.Value)]]) (by kernel_rfl) (fun z => [(0, .sl 42 (List.map Act.av l) f_l), (3, .sc (.int .i64 ((i : Nat) : Int))), (4, .ptr 0 0 none), (27, .sc (.bool (z && (decide (x.Port ≤ 16)))))]) ?J153 (fun hb J => ?ht153) (fun hb J => ?hf153)
        case ht153 =>
          exact DK.seg hG 4 [0, 3, 4, 27] (by kernel_rfl) rfl J
        case hf153 =>
          exact DK.seg hG 4 [0, 3, 4, 27] (by kernel_rfl) rfl J
        refine DK.seg hG 1 [0, 3, 4, 28] (t' := [(0, .sl 42 (List.map Act.av l) f_l), (3, .sc (.int .i64 ((i : Nat) : Int))), (4, .ptr 0 0 none), (28, .sc (.bool ((decide (x.Port ≥ 1)) && (decide (x.Port ≤ 16)))))]) (h' := [.box 42 [.sc (.int .i64 x.Kind), .sc (.int .i64 x.Port), .sc (.int .i64 x.Field), .sc (.int .u64 x.Value)]]) (by kernel_rfl) rfl ?_
        refine DK.mux 28 ((decide (x.Port ≥ 1)) && (decide (x.Port ≤ 16))) (j := 13) (h' := [.box 42 [.sc (.int .i64 x.Kind), .sc (.int .i64 x.Port), .sc (.int .i64 x.Field), .sc (.int .u64 x.Value)]]) (by kernel_rfl) (fun z => [(0, .sl 42 (List.map Act.av l) f_l), (3, .sc (.int .i64 ((i : Nat) : Int))), (4, .ptr 0 0 none), (32, .sc (.bool (z && (x.Field == 0))))]) ?J154 (fun hb J => ?ht154) (fun hb J => ?hf154)
        case ht154 =>
          exact DK.seg hG 4 [0, 3, 4, 32] (by kernel_rfl) rfl J
        case hf154 =>
          exact DK.seg hG 4 [0, 3, 4, 32] (by kernel_rfl) rfl J
        refine DK.seg hG 1 [0, 3, 4, 33] (t' := [(0, .sl 42 (List.map Act.av l) f_l), (3, .sc (.int .i64 ((i : Nat) : Int))), (4, .ptr 0 0 none), (33, .sc (.bool (((decide (x.Port ≥ 1)) && (decide (x.Port ≤ 16))) && (x.Field == 0))))]) (h' := [.box 42 [.sc (.int .i64 x.Kind), .sc (.int .i64 x.Port), .sc (.int .i64 x.Field), .sc (.int .u64 x.Value)]]) (by kernel_rfl) rfl ?_
        refine DK.mux 33 (((decide (x.Port ≥ 1)) && (decide (x.Port ≤ 16))) && (x.Field == 0)) (j := 18) (h' := [.box 42 [.sc (.int .i64 x.Kind), .sc (.int .i64 x.Port), .sc (.int .i64 x.Field), .sc (.int .u64 x.Value)]]) (by kernel_rfl) (fun z => [(0, .sl 42 (List.map Act.av l) f_l), (3, .sc (.int .i64 ((i : Nat) : Int))), (37, .sc (.bool (z && (x.Value == 0))))]) ?J155 (fun hb J => ?ht155) (fun hb J => ?hf155)
        case ht155 =>
          exact DK.seg hG 4 [0, 3, 37] (by kernel_rfl) rfl J
        case hf155 =>
          exact DK.seg hG 4 [0, 3, 37] (by kernel_rfl) rfl J
        refine DK.seg hG 1 [0, 3, 5] (t' := [(0, .sl 42 (List.map Act.av l) f_l), (3, .sc (.int .i64 ((i : Nat) : Int))), (5, .sc (.bool ((((decide (x.Port ≥ 1)) && (decide (x.Port ≤ 16))) && (x.Field == 0)) && (x.Value == 0))))]) (h' := [.box 42 [.sc (.int .i64 x.Kind), .sc (.int .i64 x.Port), .sc (.int .i64 x.Field), .sc (.int .u64 x.Value)]]) (by kernel_rfl) rfl ?_
        refine DK.done (by kernel_rfl) (by kernel_rfl) ?_
        exact AR.seg hG hm 0 [0, 3, 5] (by kernel_rfl) J
      case hf152 =>
        refine AR.seg hG hm 2 [0, 3, 4, 5, 17, 38] (k' := [.code [1, 0, 1, 0, 0, 1, 0, 0, 1, 1, 0, 1, 0, 1, 1, 1], .blk 2, .code [1, 0, 1, 0, 0, 1, 0, 0, 1, 1, 1], .blk 1, .code [1, 0, 1, 0, 0, 1, 1], .loop [1, 0, 1, 0], .blk 0, .code [1, 1]]) (t' := [(0, .sl 42 (List.map Act.av l) f_l), (3, .sc (.int .i64 ((i : Nat) : Int))), (4, .ptr 0 0 none), (5, .sc (.bool false)), (17, .sc (.int .i64 x.Kind)), (38, .sc (.bool (x.Kind == 2)))]) (h' := [.box 42 [.sc (.int .i64 x.Kind), .sc (.int .i64 x.Port), .sc (.int .i64 x.Field), .sc (.int .u64 x.Value)]]) (by kernel_rfl) ?_
        refine AR.join (.tmp 38) (x.Kind == 2) (k' := [.blk 2, .code [1, 0, 1, 0, 0, 1, 0, 0, 1, 1, 1], .blk 1, .code [1, 0, 1, 0, 0, 1, 1], .loop [1, 0, 1, 0], .blk 0, .code [1, 1]]) (h' := [.box 42 [.sc (.int .i64 x.Kind), .sc (.int .i64 x.Port), .sc (.int .i64 x.Field), .sc (.int .u64 x.Value)]]) (by kernel_rfl) (by kernel_rfl) (fun z => [(0, .sl 42 (List.map Act.av l) f_l), (3, .sc (.int .i64 ((i : Nat) : Int))), (5, .sc (.bool (bif z then ((((x.Port == 0) && (decide (x.Field ≥ 0))) && (decide (x.Field < 12))) && (podestaref01_Fits x.Value (sizeT x.Field))) else ((x.Kind == 3) && (((x.Port == 0) && (x.Field == 0)) && (x.Value == 0))))))]) ?J164 (fun hb J => ?ht164) (fun hb J => ?hf164)
        case ht164 =>
          refine AR.reg hm podestaref04_Acts_k2 (by kernel_rfl) ?_
          refine DK.seg hG 4 [0, 3, 4, 43] (t' := [(0, .sl 42 (List.map Act.av l) f_l), (3, .sc (.int .i64 ((i : Nat) : Int))), (4, .ptr 0 0 none), (43, .sc (.bool (x.Port == 0)))]) (h' := [.box 42 [.sc (.int .i64 x.Kind), .sc (.int .i64 x.Port), .sc (.int .i64 x.Field), .sc (.int .u64 x.Value)]]) (by kernel_rfl) rfl ?_
          refine DK.mux 43 (x.Port == 0) (j := 8) (h' := [.box 42 [.sc (.int .i64 x.Kind), .sc (.int .i64 x.Port), .sc (.int .i64 x.Field), .sc (.int .u64 x.Value)]]) (by kernel_rfl) (fun z => [(0, .sl 42 (List.map Act.av l) f_l), (3, .sc (.int .i64 ((i : Nat) : Int))), (4, .ptr 0 0 none), (47, .sc (.bool (z && (decide (x.Field ≥ 0)))))]) ?J165 (fun hb J => ?ht165) (fun hb J => ?hf165)
          case ht165 =>
            exact DK.seg hG 4 [0, 3, 4, 47] (by kernel_rfl) rfl J
          case hf165 =>
            exact DK.seg hG 4 [0, 3, 4, 47] (by kernel_rfl) rfl J
          refine DK.seg hG 1 [0, 3, 4, 48] (t' := [(0, .sl 42 (List.map Act.av l) f_l), (3, .sc (.int .i64 ((i : Nat) : Int))), (4, .ptr 0 0 none), (48, .sc (.bool ((x.Port == 0) && (decide (x.Field ≥ 0)))))]) (h' := [.box 42 [.sc (.int .i64 x.Kind), .sc (.int .i64 x.Port), .sc (.int .i64 x.Field), .sc (.int .u64 x.Value)]]) (by kernel_rfl) rfl ?_
          refine DK.mux 48 ((x.Port == 0) && (decide (x.Field ≥ 0))) (j := 13) (h' := [.box 42 [.sc (.int .i64 x.Kind), .sc (.int .i64 x.Port), .sc (.int .i64 x.Field), .sc (.int .u64 x.Value)]]) (by kernel_rfl) (fun z => [(0, .sl 42 (List.map Act.av l) f_l), (3, .sc (.int .i64 ((i : Nat) : Int))), (4, .ptr 0 0 none), (52, .sc (.bool (z && (decide (x.Field < 12)))))]) ?J166 (fun hb J => ?ht166) (fun hb J => ?hf166)
          case ht166 =>
            exact DK.seg hG 4 [0, 3, 4, 52] (by kernel_rfl) rfl J
          case hf166 =>
            exact DK.seg hG 4 [0, 3, 4, 52] (by kernel_rfl) rfl J
          refine DK.seg hG 1 [0, 3, 4, 53] (t' := [(0, .sl 42 (List.map Act.av l) f_l), (3, .sc (.int .i64 ((i : Nat) : Int))), (4, .ptr 0 0 none), (53, .sc (.bool (((x.Port == 0) && (decide (x.Field ≥ 0))) && (decide (x.Field < 12)))))]) (h' := [.box 42 [.sc (.int .i64 x.Kind), .sc (.int .i64 x.Port), .sc (.int .i64 x.Field), .sc (.int .u64 x.Value)]]) (by kernel_rfl) rfl ?_
          refine DK.mux 53 (((x.Port == 0) && (decide (x.Field ≥ 0))) && (decide (x.Field < 12))) (j := 21) (h' := [.box 42 [.sc (.int .i64 x.Kind), .sc (.int .i64 x.Port), .sc (.int .i64 x.Field), .sc (.int .u64 x.Value)]]) (by kernel_rfl) (fun z => [(0, .sl 42 (List.map Act.av l) f_l), (3, .sc (.int .i64 ((i : Nat) : Int))), (60, .sc (.bool (z && (podestaref01_Fits x.Value (sizeT x.Field)))))]) ?J167 (fun hb J => ?ht167) (fun hb J => ?hf167)
          case ht167 =>
            refine DK.seg hG 4 [0, 3, 53, 55, 57] (t' := [(0, .sl 42 (List.map Act.av l) f_l), (3, .sc (.int .i64 ((i : Nat) : Int))), (53, .sc (.bool true)), (55, .sc (.int .u64 x.Value)), (57, .sc (.int .i64 x.Field))]) (h' := [.box 42 [.sc (.int .i64 x.Kind), .sc (.int .i64 x.Port), .sc (.int .i64 x.Field), .sc (.int .u64 x.Value)]]) (by kernel_rfl) rfl ?_
            refine DK.op' [0, 3, 53, 55, 58] (t' := [(0, .sl 42 (List.map Act.av l) f_l), (3, .sc (.int .i64 ((i : Nat) : Int))), (53, .sc (.bool true)), (55, .sc (.int .u64 x.Value)), (58, .sc (.int .i64 (sizeT x.Field)))]) (h' := [.box 42 [.sc (.int .i64 x.Kind), .sc (.int .i64 x.Port), .sc (.int .i64 x.Field), .sc (.int .u64 x.Value)]]) (LSpec.callP' (podestaref01_Size_ok x.Field) (by kernel_rfl)) (by kernel_rfl) rfl (by kernel_rfl) rfl ?_
            refine DK.op' [0, 3, 53, 59] (t' := [(0, .sl 42 (List.map Act.av l) f_l), (3, .sc (.int .i64 ((i : Nat) : Int))), (53, .sc (.bool true)), (59, .sc (.bool (podestaref01_Fits x.Value (sizeT x.Field))))]) (h' := [.box 42 [.sc (.int .i64 x.Kind), .sc (.int .i64 x.Port), .sc (.int .i64 x.Field), .sc (.int .u64 x.Value)]]) (LSpec.callP' (podestaref01_Fits_calls x.Value (sizeT x.Field)) (by kernel_rfl)) (by kernel_rfl) rfl (by kernel_rfl) rfl ?_
            exact DK.seg hG 1 [0, 3, 60] (by kernel_rfl) rfl J
          case hf167 =>
            exact DK.seg hG 7 [0, 3, 60] (by kernel_rfl) rfl J
          refine DK.seg hG 1 [0, 3, 5] (t' := [(0, .sl 42 (List.map Act.av l) f_l), (3, .sc (.int .i64 ((i : Nat) : Int))), (5, .sc (.bool ((((x.Port == 0) && (decide (x.Field ≥ 0))) && (decide (x.Field < 12))) && (podestaref01_Fits x.Value (sizeT x.Field)))))]) (h' := [.box 42 [.sc (.int .i64 x.Kind), .sc (.int .i64 x.Port), .sc (.int .i64 x.Field), .sc (.int .u64 x.Value)]]) (by kernel_rfl) rfl ?_
          refine DK.done (by kernel_rfl) (by kernel_rfl) ?_
          exact AR.seg hG hm 0 [0, 3, 5] (by kernel_rfl) J
        case hf164 =>
          refine AR.seg hG hm 2 [0, 3, 4, 5, 61] (k' := [.code [1, 0, 1, 0, 0, 1, 0, 0, 1, 1, 0, 1, 0, 1, 1, 1, 1, 1], .blk 2, .code [1, 0, 1, 0, 0, 1, 0, 0, 1, 1, 1], .blk 1, .code [1, 0, 1, 0, 0, 1, 1], .loop [1, 0, 1, 0], .blk 0, .code [1, 1]]) (t' := [(0, .sl 42 (List.map Act.av l) f_l), (3, .sc (.int .i64 ((i : Nat) : Int))), (4, .ptr 0 0 none), (5, .sc (.bool false)), (61, .sc (.bool (x.Kind == 3)))]) (h' := [.box 42 [.sc (.int .i64 x.Kind), .sc (.int .i64 x.Port), .sc (.int .i64 x.Field), .sc (.int .u64 x.Value)]]) (by kernel_rfl) ?_
          refine AR.join (.tmp 61) (x.Kind == 3) (k' := [.blk 2, .code [1, 0, 1, 0, 0, 1, 0, 0, 1, 1, 1], .blk 1, .code [1, 0, 1, 0, 0, 1, 1], .loop [1, 0, 1, 0], .blk 0, .code [1, 1]]) (h' := [.box 42 [.sc (.int .i64 x.Kind), .sc (.int .i64 x.Port), .sc (.int .i64 x.Field), .sc (.int .u64 x.Value)]]) (by kernel_rfl) (by kernel_rfl) (fun z => [(0, .sl 42 (List.map Act.av l) f_l), (3, .sc (.int .i64 ((i : Nat) : Int))), (5, .sc (.bool (z && (((x.Port == 0) && (x.Field == 0)) && (x.Value == 0)))))]) ?J170 (fun hb J => ?ht170) (fun hb J => ?hf170)
          case ht170 =>
            refine AR.reg hm podestaref04_Acts_k3 (by kernel_rfl) ?_
            refine DK.seg hG 4 [0, 3, 4, 66] (t' := [(0, .sl 42 (List.map Act.av l) f_l), (3, .sc (.int .i64 ((i : Nat) : Int))), (4, .ptr 0 0 none), (66, .sc (.bool (x.Port == 0)))]) (h' := [.box 42 [.sc (.int .i64 x.Kind), .sc (.int .i64 x.Port), .sc (.int .i64 x.Field), .sc (.int .u64 x.Value)]]) (by kernel_rfl) rfl ?_
            refine DK.mux 66 (x.Port == 0) (j := 8) (h' := [.box 42 [.sc (.int .i64 x.Kind), .sc (.int .i64 x.Port), .sc (.int .i64 x.Field), .sc (.int .u64 x.Value)]]) (by kernel_rfl) (fun z => [(0, .sl 42 (List.map Act.av l) f_l), (3, .sc (.int .i64 ((i : Nat) : Int))), (4, .ptr 0 0 none), (70, .sc (.bool (z && (x.Field == 0))))]) ?J171 (fun hb J => ?ht171) (fun hb J => ?hf171)
            case ht171 =>
              exact DK.seg hG 4 [0, 3, 4, 70] (by kernel_rfl) rfl J
            case hf171 =>
              exact DK.seg hG 4 [0, 3, 4, 70] (by kernel_rfl) rfl J
            refine DK.seg hG 1 [0, 3, 4, 71] (t' := [(0, .sl 42 (List.map Act.av l) f_l), (3, .sc (.int .i64 ((i : Nat) : Int))), (4, .ptr 0 0 none), (71, .sc (.bool ((x.Port == 0) && (x.Field == 0))))]) (h' := [.box 42 [.sc (.int .i64 x.Kind), .sc (.int .i64 x.Port), .sc (.int .i64 x.Field), .sc (.int .u64 x.Value)]]) (by kernel_rfl) rfl ?_
            refine DK.mux 71 ((x.Port == 0) && (x.Field == 0)) (j := 13) (h' := [.box 42 [.sc (.int .i64 x.Kind), .sc (.int .i64 x.Port), .sc (.int .i64 x.Field), .sc (.int .u64 x.Value)]]) (by kernel_rfl) (fun z => [(0, .sl 42 (List.map Act.av l) f_l), (3, .sc (.int .i64 ((i : Nat) : Int))), (75, .sc (.bool (z && (x.Value == 0))))]) ?J172 (fun hb J => ?ht172) (fun hb J => ?hf172)
            case ht172 =>
              exact DK.seg hG 4 [0, 3, 75] (by kernel_rfl) rfl J
            case hf172 =>
              exact DK.seg hG 4 [0, 3, 75] (by kernel_rfl) rfl J
            refine DK.seg hG 1 [0, 3, 5] (t' := [(0, .sl 42 (List.map Act.av l) f_l), (3, .sc (.int .i64 ((i : Nat) : Int))), (5, .sc (.bool (((x.Port == 0) && (x.Field == 0)) && (x.Value == 0))))]) (h' := [.box 42 [.sc (.int .i64 x.Kind), .sc (.int .i64 x.Port), .sc (.int .i64 x.Field), .sc (.int .u64 x.Value)]]) (by kernel_rfl) rfl ?_
            refine DK.done (by kernel_rfl) (by kernel_rfl) ?_
            exact AR.seg hG hm 0 [0, 3, 5] (by kernel_rfl) J
          case hf170 =>
            exact AR.seg hG hm 1 [0, 3, 5] (by kernel_rfl) J
          exact AR.seg hG hm 0 [0, 3, 5] (by kernel_rfl) J
        exact AR.seg hG hm 0 [0, 3, 5] (by kernel_rfl) J
      refine AR.seg hG hm 3 [0, 3, 77] (k' := [.code [1, 0, 1, 0, 0, 1, 0, 0, 1, 1, 1, 1], .blk 1, .code [1, 0, 1, 0, 0, 1, 1], .loop [1, 0, 1, 0], .blk 0, .code [1, 1]]) (t' := [(0, .sl 42 (List.map Act.av l) f_l), (3, .sc (.int .i64 ((i : Nat) : Int))), (77, .sc (.bool (!(bif (x.Kind == 1) then ((((decide (x.Port ≥ 1)) && (decide (x.Port ≤ 16))) && (x.Field == 0)) && (x.Value == 0)) else (bif (x.Kind == 2) then ((((x.Port == 0) && (decide (x.Field ≥ 0))) && (decide (x.Field < 12))) && (podestaref01_Fits x.Value (sizeT x.Field))) else ((x.Kind == 3) && (((x.Port == 0) && (x.Field == 0)) && (x.Value == 0))))))))]) (h' := [.box 42 [.sc (.int .i64 x.Kind), .sc (.int .i64 x.Port), .sc (.int .i64 x.Field), .sc (.int .u64 x.Value)]]) (by kernel_rfl) ?_
      refine AR.cond (.tmp 77) (!(bif (x.Kind == 1) then ((((decide (x.Port ≥ 1)) && (decide (x.Port ≤ 16))) && (x.Field == 0)) && (x.Value == 0)) else (bif (x.Kind == 2) then ((((x.Port == 0) && (decide (x.Field ≥ 0))) && (decide (x.Field < 12))) && (podestaref01_Fits x.Value (sizeT x.Field))) else ((x.Kind == 3) && (((x.Port == 0) && (x.Field == 0)) && (x.Value == 0)))))) (by kernel_rfl) (by kernel_rfl) (fun hb => ?ht173) (fun hb => ?hf173)
      case ht173 =>
        replace H := cond_t hb H
        refine AR.seg hG hm 2 [2] (k' := [.code [1, 0, 1, 0, 0, 1, 0, 0, 1, 1, 1, 1, 0, 1], .blk 1, .code [1, 0, 1, 0, 0, 1, 1], .loop [1, 0, 1, 0], .blk 0, .code [1, 1]]) (t' := [(2, .sc (.bool false))]) (h' := [.box 42 [.sc (.int .i64 x.Kind), .sc (.int .i64 x.Port), .sc (.int .i64 x.Field), .sc (.int .u64 x.Value)]]) (by kernel_rfl) ?_
        subst H
        obtain rfl := Jr _ rfl
        exact AR.ret0 (fn := Try.f40) hG Try.func40 (by kernel_rfl) hc0 (r0 := .sc (.bool false)) (by kernel_rfl) (WkV.refl _)
      case hf173 =>
        replace H := cond_f hb H
        refine AR.seg hG hm 3 [0, 3] (k' := [.loop [1, 0, 1, 0], .blk 0, .code [1, 1]]) (t' := [(0, .sl 42 (List.map Act.av l) f_l), (3, .sc (.int .i64 (IntKind.i64.wrap (((i : Nat) : Int) + 1))))]) (h' := [.box 42 [.sc (.int .i64 x.Kind), .sc (.int .i64 x.Port), .sc (.int .i64 x.Field), .sc (.int .u64 x.Value)]]) (by kernel_rfl) ?_
        refine AR.keep [0, 3] (t' := [(0, .sl 42 (List.map Act.av l) f_l), (3, .sc (.int .i64 (IntKind.i64.wrap (((i : Nat) : Int) + 1))))]) (by kernel_rfl) ?_
        refine AR.drop' 0 hc0 (t' := [(0, .sl 42 (List.map Act.av l) f_l), (3, .sc (.int .i64 (IntKind.i64.wrap (((i : Nat) : Int) + 1))))]) (h' := []) (by kernel_rfl) ?_
        refine AR.loop_round ?_
        rw [hw]
        exact ih (i + 1) hd2 H
    case hf131 => exact absurd (hc.symm.trans hb) (by decide)

def podestaref04_Acts (l : List Act) : Bool :=
  sumG (fun q => q) (podestaref04_Acts_l0s l) fun v =>
  (decide ((((List.map Act.av l).length : Nat) : Int) ≤ 8))
theorem podestaref04_Acts_walk (l : List Act) (f_l : Bool) (r : Bool) (H : podestaref04_Acts l = r) :
    ACalls Try.prog tab.S 40 [.sl 42 (List.map Act.av l) f_l] [] (.sc (.bool r)) [] := by
  have hG := tab_ok
  have hm := mixed
  refine ACalls.of_AR (G := tab) podestaref04_Acts_F (fn := Try.f40) Try.func40 (by kernel_rfl) (by kernel_rfl) (by kernel_rfl) (Nat.le_of_ble_eq_true (by kernel_rfl)) ?_
  intro c0 hc0
  replace hc0 : c0.m.length = 0 := hc0
  rw [podestaref04_Acts] at H
  refine AR.seg hG hm 6 [0, 3] (k' := [.code [1, 0, 1, 0], .blk 0, .code [1, 1]]) (t' := [(0, .sl 42 (List.map Act.av l) f_l), (3, .sc (.int .i64 0))]) (h' := []) (by kernel_rfl) ?_
  rcases sumG_eq H with ⟨v, hv, H⟩ | ⟨r1, hv, hr1⟩
  case inr =>
    refine AR.into (by kernel_rfl) ?_
    replace hr1 : r1 = r := hr1
    subst hr1
    exact podestaref04_Acts_l0_walk l f_l _ c0 hc0 (.inr _) (fun _ e => by cases e) (fun _ e => (Sum.inr.inj e).symm) l 0 rfl hv
  refine AR.into (by kernel_rfl) ?_
  refine podestaref04_Acts_l0_walk l f_l r c0 hc0 (.inl v) (fun w e => ?_) (fun _ e => by cases e) l 0 rfl hv
  have e := Sum.inl.inj e
  subst e
  refine AR.seg hG hm 2 [2] (k' := [.code [1, 1, 1]]) (t' := [(2, .sc (.bool (decide ((((List.map Act.av l).length : Nat) : Int) ≤ 8))))]) (h' := []) (by kernel_rfl) ?_
  subst H
  exact AR.ret0 (fn := Try.f40) hG Try.func40 (by kernel_rfl) hc0 (r0 := .sc (.bool (decide ((((List.map Act.av l).length : Nat) : Int) ≤ 8)))) (by kernel_rfl) (WkV.refl _)
theorem podestaref04_Acts_calls (l : List Act) (f_l : Bool) : ACalls Try.prog tab.S 40 [.sl 42 (List.map Act.av l) f_l] [] (.sc (.bool (podestaref04_Acts l))) [] := podestaref04_Acts_walk l f_l _ rfl

def actOk (x : Act) : Bool := (bif (x.Kind == 1) then ((((decide (x.Port ≥ 1)) && (decide (x.Port ≤ 16))) && (x.Field == 0)) && (x.Value == 0)) else (bif (x.Kind == 2) then ((((x.Port == 0) && (decide (x.Field ≥ 0))) && (decide (x.Field < 12))) && (fitsT x.Field x.Value)) else ((x.Kind == 3) && (((x.Port == 0) && (x.Field == 0)) && (x.Value == 0)))))
def ActsOk (l : List Act) : Bool := l.all actOk && decide (l.length ≤ 8)
theorem refActs_l0s_eq : ∀ (l : List Act), podestaref04_Acts_l0s l = if l.all actOk then .inl () else .inr false
  | [] => rfl
  | x :: l => by
      rw [podestaref04_Acts_l0s, refActs_l0s_eq l, List.all_cons]
      simp only [refFits_eq]
      show (bif (!(actOk x)) then _ else _) = _
      cases actOk x
      · rfl
      · simp only [Bool.not_true, cond_false, Bool.true_and]
theorem refActs_eq (l : List Act) : podestaref04_Acts l = ActsOk l := by
  unfold podestaref04_Acts ActsOk
  rw [refActs_l0s_eq, List.length_map]
  cases l.all actOk
  · rfl
  · simp only [if_true, sumG, Bool.true_and]
    rw [Bool.eq_iff_iff, decide_eq_true_eq, decide_eq_true_eq]
    omega

/-! ### podestaref01.Bits: function 53 -/
noncomputable def podestaref01_Bits_F : Go.Sh.Fn := ⟨53, bodyOf Try.f53, 23⟩
def podestaref01_Bits_k0 : List Kd := [.pure, .pure, .pure, .pure, .pure, .pure, .pure, .pure, .loud, .pure]
def podestaref01_Bits_l0 (v : Int) : Nat → Int → List Bool → Option ((List Bool))
  | 0, _, _ => none
  | m + 1, k1, out =>
    (bif (decide (k1 ≥ 0)) then
    fitO (out.length + [((IntKind.u64.wrap ((BitVec.ofInt 64 (Int.fdiv v (2 ^ (min ((IntKind.u64.wrap k1) : Int).toNat (IntKind.u64).bits))) &&& BitVec.ofInt 64 1).toNat)) == 1)].length) 1 (
    podestaref01_Bits_l0 v m (IntKind.i64.wrap (k1 - 1)) (out ++ [((IntKind.u64.wrap ((BitVec.ofInt 64 (Int.fdiv v (2 ^ (min ((IntKind.u64.wrap k1) : Int).toNat (IntKind.u64).bits))) &&& BitVec.ofInt 64 1).toNat)) == 1)]))
  else
    some out)
theorem podestaref01_Bits_l0_walk (q0 : Nat) (v : Int) (size : Int)  (r : (List Bool)) (c0 : Ctx) (hc0 : c0.m.length = 0) (res : (List Bool)) (J : AR Try.prog tab podestaref01_Bits_F c0 (Rp tab.S c0 (.sl 4 (List.map boolA r) false) []) [.code [1, 1, 1]] [(5, .own 0 1000000)] [.row 4 (List.map boolA res) 1000000 true]) :
    ∀ (m : Nat) (k1 : Int) (out : List Bool) (H : podestaref01_Bits_l0 v m k1 out = some res), AR Try.prog tab podestaref01_Bits_F c0 (Rp tab.S c0 (.sl 4 (List.map boolA r) false) []) [.code [1, 1, 0, 1, 0, 0], .loop [1, 1, 0, 1, 0], .blk 0, .code [1, 1, 1]] [(0, .sc (.int .u64 v)), (5, .own 0 1000000), (6, .sc (.int .i64 k1))] [.row 4 (List.map boolA out) 1000000 true] := by
  have hG := tab_ok
  have hm := mixed
  intro m
  induction m with
  | zero => intro k1 out H; cases H
  | succ m ih =>
    intro k1 out H
    rw [podestaref01_Bits_l0] at H
    refine AR.seg hG hm 3 [0, 5, 6, 10] (k' := [.code [1, 1, 0, 1, 0, 0, 0, 1], .code [1, 1, 0, 1, 0, 0, 1], .loop [1, 1, 0, 1, 0], .blk 0, .code [1, 1, 1]]) (t' := [(0, .sc (.int .u64 v)), (5, .own 0 1000000), (6, .sc (.int .i64 k1)), (10, .sc (.bool (decide (k1 ≥ 0))))]) (h' := [.row 4 (List.map boolA out) 1000000 true]) (by kernel_rfl) ?_
    refine AR.cond (.tmp 10) (decide (k1 ≥ 0)) (by kernel_rfl) (by kernel_rfl) (fun hb => ?ht4) (fun hb => ?hf4)
    case ht4 =>
      replace H := cond_t hb H
      refine AR.seg hG hm 3 [0, 5, 6] (k' := [.code [1, 1, 0, 1, 0, 0, 1, 0, 0], .blk 1, .code [1, 1, 0, 1, 0, 0, 1, 1], .loop [1, 1, 0, 1, 0], .blk 0, .code [1, 1, 1]]) (t' := [(0, .sc (.int .u64 v)), (5, .own 0 1000000), (6, .sc (.int .i64 k1))]) (h' := [.row 4 (List.map boolA out) 1000000 true]) (by kernel_rfl) ?_
      refine AR.reg hm podestaref01_Bits_k0 (by kernel_rfl) ?_
      refine DK.seg hG 4 [0, 6, 13, 14, 16] (t' := [(0, .sc (.int .u64 v)), (6, .sc (.int .i64 k1)), (13, .own 0 1000000), (14, .sc (.int .u64 v)), (16, .sc (.int .u64 (IntKind.u64.wrap k1)))]) (h' := [.row 4 (List.map boolA out) 1000000 true]) (by kernel_rfl) rfl ?_
      refine DK.op' [0, 6, 13, 17] (t' := [(0, .sc (.int .u64 v)), (6, .sc (.int .i64 k1)), (13, .own 0 1000000), (17, .sc (.int .u64 (Int.fdiv v (2 ^ (min ((IntKind.u64.wrap k1) : Int).toNat (IntKind.u64).bits)))))]) (h' := [.row 4 (List.map boolA out) 1000000 true]) (LSpec.shr (k := .u64) (a := v) (k' := .u64) (b := (IntKind.u64.wrap k1)) (wrapU_nonneg _) (by kernel_rfl)) (by kernel_rfl) rfl (by kernel_rfl) rfl ?_
      refine DK.seg hG 3 [0, 6, 13, 20] (t' := [(0, .sc (.int .u64 v)), (6, .sc (.int .i64 k1)), (13, .own 0 1000000), (20, .sl 4 (List.map boolA [((IntKind.u64.wrap ((BitVec.ofInt 64 (Int.fdiv v (2 ^ (min ((IntKind.u64.wrap k1) : Int).toNat (IntKind.u64).bits))) &&& BitVec.ofInt 64 1).toNat)) == 1)]) true)]) (h' := [.row 4 (List.map boolA out) 1000000 true]) (by kernel_rfl) rfl ?_
      obtain ⟨hfit, H⟩ := fitO_some H
      refine DK.op' [0, 6, 21] (t' := [(0, .sc (.int .u64 v)), (6, .sc (.int .i64 k1)), (21, .own 0 1000001)]) (h' := [.row 4 (List.map boolA (out ++ [((IntKind.u64.wrap ((BitVec.ofInt 64 (Int.fdiv v (2 ^ (min ((IntKind.u64.wrap k1) : Int).toNat (IntKind.u64).bits))) &&& BitVec.ofInt 64 1).toNat)) == 1)])) 1000001 true]) (LSpec.append' hG boolA out [((IntKind.u64.wrap ((BitVec.ofInt 64 (Int.fdiv v (2 ^ (min ((IntKind.u64.wrap k1) : Int).toNat (IntKind.u64).bits))) &&& BitVec.ofInt 64 1).toNat)) == 1)] 0 1000000 4 1 hfit (by kernel_rfl)) (by kernel_rfl) (by kernel_rfl) (by kernel_rfl) rfl ?_
      refine DK.seg hG 1 [0, 5, 6] (t' := [(0, .sc (.int .u64 v)), (5, .own 0 1000001), (6, .sc (.int .i64 k1))]) (h' := [.row 4 (List.map boolA (out ++ [((IntKind.u64.wrap ((BitVec.ofInt 64 (Int.fdiv v (2 ^ (min ((IntKind.u64.wrap k1) : Int).toNat (IntKind.u64).bits))) &&& BitVec.ofInt 64 1).toNat)) == 1)])) 1000001 true]) (by kernel_rfl) rfl ?_
      refine DK.done (by kernel_rfl) (by kernel_rfl) ?_
      refine AR.seg hG hm 2 [0, 5, 6] (k' := [.loop [1, 1, 0, 1, 0], .blk 0, .code [1, 1, 1]]) (t' := [(0, .sc (.int .u64 v)), (5, .own 0 1000001), (6, .sc (.int .i64 (IntKind.i64.wrap (k1 - 1))))]) (h' := [.row 4 (List.map boolA (out ++ [((IntKind.u64.wrap ((BitVec.ofInt 64 (Int.fdiv v (2 ^ (min ((IntKind.u64.wrap k1) : Int).toNat (IntKind.u64).bits))) &&& BitVec.ofInt 64 1).toNat)) == 1)])) 1000001 true]) (by kernel_rfl) ?_
      refine AR.keep [0, 5, 6] (t' := [(0, .sc (.int .u64 v)), (5, .own 0 1000001), (6, .sc (.int .i64 (IntKind.i64.wrap (k1 - 1))))]) (by kernel_rfl) ?_
      refine AR.norm' 0 1000000 hc0 (t' := [(0, .sc (.int .u64 v)), (5, .own 0 1000000), (6, .sc (.int .i64 (IntKind.i64.wrap (k1 - 1))))]) (h' := [.row 4 (List.map boolA (out ++ [((IntKind.u64.wrap ((BitVec.ofInt 64 (Int.fdiv v (2 ^ (min ((IntKind.u64.wrap k1) : Int).toNat (IntKind.u64).bits))) &&& BitVec.ofInt 64 1).toNat)) == 1)])) 1000000 true]) (by kernel_rfl) ?_
      refine AR.loop_round ?_
      exact ih (IntKind.i64.wrap (k1 - 1)) (out ++ [((IntKind.u64.wrap ((BitVec.ofInt 64 (Int.fdiv v (2 ^ (min ((IntKind.u64.wrap k1) : Int).toNat (IntKind.u64).bits))) &&& BitVec.ofInt 64 1).toNat)) == 1)]) H
    case hf4 =>
      replace H := cond_f hb H
      refine AR.seg hG hm 1 [5] (k' := [.code [1, 1, 1]]) (t' := [(5, .own 0 1000000)]) (h' := [.row 4 (List.map boolA out) 1000000 true]) (by kernel_rfl) ?_
      refine AR.keep [5] (t' := [(5, .own 0 1000000)]) (by kernel_rfl) ?_
      obtain rfl := Option.some.inj H
      exact J
def podestaref01_Bits_raw (q0 : Nat) (v : Int) (size : Int) : Option ((List Bool)) :=
  (podestaref01_Bits_l0 v q0 (IntKind.i64.wrap (size - 1)) ([] : List Bool)).bind fun v1 =>
  some v1
theorem podestaref01_Bits_walk (q0 : Nat) (v : Int) (size : Int) (r : (List Bool)) (H : podestaref01_Bits_raw q0 v size = some r) :
    ACalls Try.prog tab.S 53 [.sc (.int .u64 v), .sc (.int .i64 size)] [] (.sl 4 (List.map boolA r) false) [] := by
  have hG := tab_ok
  have hm := mixed
  refine ACalls.of_AR (G := tab) podestaref01_Bits_F (fn := Try.f53) Try.func53 (by kernel_rfl) (by kernel_rfl) (by kernel_rfl) (Nat.le_of_ble_eq_true (by kernel_rfl)) ?_
  intro c0 hc0
  replace hc0 : c0.m.length = 0 := hc0
  rw [podestaref01_Bits_raw] at H
  refine AR.seg hG hm 8 [0, 5, 6] (k' := [.code [1, 1, 0, 1, 0], .blk 0, .code [1, 1, 1]]) (t' := [(0, .sc (.int .u64 v)), (5, .sl 0 [] true), (6, .sc (.int .i64 (IntKind.i64.wrap (size - 1))))]) (h' := []) (by kernel_rfl) ?_
  refine AR.adoptB' 5 4 (t' := [(5, .own 0 1000000), (0, .sc (.int .u64 v)), (6, .sc (.int .i64 (IntKind.i64.wrap (size - 1))))]) (h' := [.row 4 (List.map boolA ([] : List Bool)) 1000000 true]) (by kernel_rfl) ?_
  refine AR.keep [0, 5, 6] (t' := [(0, .sc (.int .u64 v)), (5, .own 0 1000000), (6, .sc (.int .i64 (IntKind.i64.wrap (size - 1))))]) (by kernel_rfl) ?_
  obtain ⟨v1, hv, H⟩ := Option.bind_eq_some_iff.1 H
  refine AR.into (by kernel_rfl) ?_
  refine podestaref01_Bits_l0_walk q0 v size r c0 hc0 v1 ?_ q0 (IntKind.i64.wrap (size - 1)) ([] : List Bool) hv
  refine AR.seg hG hm 2 [4] (k' := [.code [1, 1, 1, 1]]) (t' := [(4, .own 0 1000000)]) (h' := [.row 4 (List.map boolA v1) 1000000 true]) (by kernel_rfl) ?_
  obtain rfl := Option.some.inj H
  exact AR.ret0 (fn := Try.f53) hG Try.func53 (by kernel_rfl) hc0 (r0 := .sl 4 (List.map boolA v1) false) (by kernel_rfl) (WkV.refl _)

def bitE (v k1 : Int) : Bool := ((IntKind.u64.wrap ((BitVec.ofInt 64 (Int.fdiv v (2 ^ (min ((IntKind.u64.wrap k1) : Int).toNat (IntKind.u64).bits))) &&& BitVec.ofInt 64 1).toNat)) == 1)
def bitsL (v : Int) : Nat → List Bool
  | 0 => []
  | n + 1 => bitE v (n : Int) :: bitsL v n
theorem bitsL_len (v : Int) : ∀ n, (bitsL v n).length = n
  | 0 => rfl
  | n + 1 => by rw [bitsL, List.length_cons, bitsL_len v n]
def bitsO (v size : Int) : Option (List Bool) := if 0 ≤ size ∧ size ≤ 64 then some (bitsL v size.toNat) else none
theorem refBits_l0_eq (v : Int) : ∀ (n m : Nat) (out : List Bool), n < m → n ≤ 64 → out.length + n ≤ 1000 → podestaref01_Bits_l0 v m ((n : Int) - 1) out = some (out ++ bitsL v n)
  | 0, m + 1, out, _, _, _ => by
      rw [podestaref01_Bits_l0, decide_eq_false (by omega), bitsL, List.append_nil]; rfl
  | n + 1, m + 1, out, h1, h2, h3 => by
      have e : (((n + 1 : Nat) : Int) - 1) = (n : Int) := by omega
      rw [podestaref01_Bits_l0, e, decide_eq_true (show ((n : Int)) ≥ 0 by omega), cond_true, fitO_eq (by rw [List.length_cons, List.length_nil]; omega), wrap_eq (by omega) (by omega)]
      rw [refBits_l0_eq v n m _ (by omega) (by omega) (by rw [List.length_append, List.length_cons, List.length_nil]; omega), List.append_assoc]
      rfl
theorem podestaref01_Bits_ok (v size : Int) (x : List Bool) (h : bitsO v size = some x) : ACalls Try.prog tab.S 53 [.sc (.int .u64 v), .sc (.int .i64 size)] [] (.sl 4 (List.map boolA x) false) [] := by
  unfold bitsO at h
  split at h
  · rename_i hc
    injection h with h
    subst h
    refine podestaref01_Bits_walk (size.toNat + 1) v size _ ?_
    rw [podestaref01_Bits_raw, wrap_eq (by omega) (by omega)]
    have := refBits_l0_eq v size.toNat (size.toNat + 1) [] (by omega) (by omega) (by rw [List.length_nil]; omega)
    rw [show ((size.toNat : Nat) : Int) = size by omega] at this
    rw [this]
    rfl
  · cases h

end Go.Proofs.Ytadolbhmdimbkaa

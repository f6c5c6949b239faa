import Derived.Test.YtlfiemphadkimaaM3UndoAny
set_option linter.unusedVariables false
set_option linter.unusedSimpArgs false
set_option maxRecDepth 100000
set_option maxHeartbeats 4000000
namespace Go.Proofs.Ytlfiemphadkimaa
open Go.Sh
theorem Act.beq_eq (x y : Act) : ((x.Kind == y.Kind) && ((x.Port == y.Port) && ((x.Field == y.Field) && (x.Value == y.Value)))) = (x == y) := by
  rw [Bool.eq_iff_iff]
  simp only [Bool.and_eq_true, beq_iff_eq]
  cases x; cases y
  simp

theorem zipAll_ne {α β : Type} (f : α → β → Bool) {a : List α} {b : List β} (h : ¬ a.length = b.length) : zipAll f a b = false := by
  rw [Bool.eq_false_iff]
  exact fun q => h (zipAll_len q)

/-! ### slices.Equal: function 83 -/
noncomputable def slices_Equal__api_Act_F : Go.Sh.Fn := ⟨83, bodyOf Try.f83, 26⟩
def slices_Equal__api_Act_k0 : List Kd := [.pure, .pure, .pure, .pure, .pure, .pure, .pure, .pure, .pure]
def slices_Equal__api_Act_l0s (s2 : List Act) : List Act → Nat → Option (Sum (Unit) (Bool))
  | [], t13 =>
    some (.inl ())
  | x :: rest, t13 =>
    (ixO s2 ((t13 : Nat) : Int)).bind fun x1 =>
    (bif (!((x.Kind == x1.Kind) && ((x.Port == x1.Port) && ((x.Field == x1.Field) && (x.Value == x1.Value))))) then
      some (.inr false)
    else
      slices_Equal__api_Act_l0s s2 rest (t13 + 1) )
theorem slices_Equal__api_Act_l0_walk (s1 : List Act) (s2 : List Act) (f_s1 : Bool) (f_s2 : Bool) (r : Bool) (c0 : Ctx) (hc0 : c0.m.length = 0) (res : Sum (Unit) (Bool)) (J : ∀ w : Unit, res = .inl w → AR Try.prog tab slices_Equal__api_Act_F c0 (Rp tab.S c0 (.sc (.bool r)) []) [.code [1, 1, 1]] [] []) (Jr : ∀ w, res = .inr w → w = r) :
    ∀ (rest : List Act) (t13 : Nat) (hd : s1.drop t13 = rest) (H : slices_Equal__api_Act_l0s s2 rest t13 = some res), AR Try.prog tab slices_Equal__api_Act_F c0 (Rp tab.S c0 (.sc (.bool r)) []) [.code [1, 1, 0, 1, 0, 0], .loop [1, 1, 0, 1, 0], .blk 0, .code [1, 1, 1]] [(0, .sl 60 (List.map Act.av s1) f_s1), (1, .sl 60 (List.map Act.av s2) f_s2), (12, .sc (.int .i64 (((List.map Act.av s1).length : Nat) : Int))), (13, .sc (.int .i64 ((t13 : Nat) : Int)))] [] := by
  have hG := tab_ok
  have hm := mixed
  intro rest
  induction rest with
  | nil =>
    intro t13 hd  H
    rw [slices_Equal__api_Act_l0s] at H
    refine AR.facts 0 rfl fun hf => ?_
    have hlen : s1.length ≤ 9223372036854775807 := by have hq := len_ok hf.2.1; rw [List.length_map] at hq; exact hq
    have hge : s1.length ≤ t13 := List.drop_eq_nil_iff.1 hd
    have hc : (decide (((t13 : Nat) : Int) < (((List.map Act.av s1).length : Nat) : Int))) = false := by rw [List.length_map]; exact decide_eq_false (by omega)
    refine AR.seg hG hm 3 [0, 1, 12, 13, 14] (k' := [.code [1, 1, 0, 1, 0, 0, 1, 0], .code [1, 1, 0, 1, 0, 0, 1, 1], .loop [1, 1, 0, 1, 0], .blk 0, .code [1, 1, 1]]) (t' := [(0, .sl 60 (List.map Act.av s1) f_s1), (1, .sl 60 (List.map Act.av s2) f_s2), (12, .sc (.int .i64 (((List.map Act.av s1).length : Nat) : Int))), (13, .sc (.int .i64 ((t13 : Nat) : Int))), (14, .sc (.bool (decide (((t13 : Nat) : Int) < (((List.map Act.av s1).length : Nat) : Int)))))]) (h' := []) (by kernel_rfl) ?_
    refine AR.cond (.tmp 14) (decide (((t13 : Nat) : Int) < (((List.map Act.av s1).length : Nat) : Int))) (by kernel_rfl) (by kernel_rfl) (fun hb => ?ht8) (fun hb => ?hf8)
    case ht8 => exact absurd (hb.symm.trans hc) (by decide)
    case hf8 =>
      refine AR.seg hG hm 1 [] (k' := [.code [1, 1, 1]]) (t' := []) (h' := []) (by kernel_rfl) ?_
      refine AR.keep [] (t' := []) (by kernel_rfl) ?_
      exact J () (Option.some.inj H).symm
  | cons x rest ih =>
    intro t13 hd  H
    rw [slices_Equal__api_Act_l0s] at H
    refine AR.facts 0 rfl fun hf => ?_
    have hlen : s1.length ≤ 9223372036854775807 := by have hq := len_ok hf.2.1; rw [List.length_map] at hq; exact hq
    obtain ⟨hlt, hv_t13, hd2⟩ := drop_cons hd
    have hc : (decide (((t13 : Nat) : Int) < (((List.map Act.av s1).length : Nat) : Int))) = true := by rw [List.length_map]; exact decide_eq_true (by omega)
    have hw : IntKind.i64.wrap (((t13 : Nat) : Int) + 1) = ((t13 + 1 : Nat) : Int) := wrapI_succ (by omega)
    refine AR.seg hG hm 3 [0, 1, 12, 13, 14] (k' := [.code [1, 1, 0, 1, 0, 0, 1, 0], .code [1, 1, 0, 1, 0, 0, 1, 1], .loop [1, 1, 0, 1, 0], .blk 0, .code [1, 1, 1]]) (t' := [(0, .sl 60 (List.map Act.av s1) f_s1), (1, .sl 60 (List.map Act.av s2) f_s2), (12, .sc (.int .i64 (((List.map Act.av s1).length : Nat) : Int))), (13, .sc (.int .i64 ((t13 : Nat) : Int))), (14, .sc (.bool (decide (((t13 : Nat) : Int) < (((List.map Act.av s1).length : Nat) : Int)))))]) (h' := []) (by kernel_rfl) ?_
    refine AR.cond (.tmp 14) (decide (((t13 : Nat) : Int) < (((List.map Act.av s1).length : Nat) : Int))) (by kernel_rfl) (by kernel_rfl) (fun hb => ?ht9) (fun hb => ?hf9)
    case ht9 =>
      refine AR.seg hG hm 6 [0, 1, 5, 12, 13] (k' := [.code [1, 1, 0, 1, 0, 0, 1, 1, 0, 0, 1, 0], .code [1, 1, 0, 1, 0, 0, 1, 1, 0, 0, 1, 1], .blk 1, .code [1, 1, 0, 1, 0, 0, 1, 1, 1], .loop [1, 1, 0, 1, 0], .blk 0, .code [1, 1, 1]]) (t' := [(0, .sl 60 (List.map Act.av s1) f_s1), (1, .sl 60 (List.map Act.av s2) f_s2), (5, .sc (.int .i64 ((t13 : Nat) : Int))), (12, .sc (.int .i64 (((List.map Act.av s1).length : Nat) : Int))), (13, .sc (.int .i64 ((t13 : Nat) : Int)))]) (h' := []) (by kernel_rfl) ?_
      refine AR.reg hm slices_Equal__api_Act_k0 (by kernel_rfl) ?_
      refine DK.seg hG 2 [0, 1, 5, 12, 13, 16, 17] (t' := [(0, .sl 60 (List.map Act.av s1) f_s1), (1, .sl 60 (List.map Act.av s2) f_s2), (5, .sc (.int .i64 ((t13 : Nat) : Int))), (12, .sc (.int .i64 (((List.map Act.av s1).length : Nat) : Int))), (13, .sc (.int .i64 ((t13 : Nat) : Int))), (16, .sl 60 (List.map Act.av s1) f_s1), (17, .sc (.int .i64 ((t13 : Nat) : Int)))]) (h' := []) (by kernel_rfl) rfl ?_
      refine DK.op' [0, 1, 5, 12, 13, 18] (t' := [(0, .sl 60 (List.map Act.av s1) f_s1), (1, .sl 60 (List.map Act.av s2) f_s2), (5, .sc (.int .i64 ((t13 : Nat) : Int))), (12, .sc (.int .i64 (((List.map Act.av s1).length : Nat) : Int))), (13, .sc (.int .i64 ((t13 : Nat) : Int))), (18, .ep [.sc (.int .i64 x.Kind), .sc (.int .i64 x.Port), .sc (.int .i64 x.Field), .sc (.int .u64 x.Value)] 0 none)]) (h' := []) (LSpec.index' (r := Act.av x) (fs := [.sc (.int .i64 x.Kind), .sc (.int .i64 x.Port), .sc (.int .i64 x.Field), .sc (.int .u64 x.Value)]) hG (rows := List.map Act.av s1) (j := ((t13 : Nat) : Int)) (by kernel_rfl) (ixO_map hv_t13 _) (by kernel_rfl)) (by kernel_rfl) rfl (by kernel_rfl) rfl ?_
      refine DK.seg hG 3 [0, 1, 12, 13, 19, 20, 21] (t' := [(0, .sl 60 (List.map Act.av s1) f_s1), (1, .sl 60 (List.map Act.av s2) f_s2), (12, .sc (.int .i64 (((List.map Act.av s1).length : Nat) : Int))), (13, .sc (.int .i64 ((t13 : Nat) : Int))), (19, Act.av x), (20, .sl 60 (List.map Act.av s2) f_s2), (21, .sc (.int .i64 ((t13 : Nat) : Int)))]) (h' := []) (by kernel_rfl) rfl ?_
      obtain ⟨x1, hv, H⟩ := Option.bind_eq_some_iff.1 H
      refine DK.op' [0, 1, 12, 13, 19, 22] (t' := [(0, .sl 60 (List.map Act.av s1) f_s1), (1, .sl 60 (List.map Act.av s2) f_s2), (12, .sc (.int .i64 (((List.map Act.av s1).length : Nat) : Int))), (13, .sc (.int .i64 ((t13 : Nat) : Int))), (19, Act.av x), (22, .ep [.sc (.int .i64 x1.Kind), .sc (.int .i64 x1.Port), .sc (.int .i64 x1.Field), .sc (.int .u64 x1.Value)] 0 none)]) (h' := []) (LSpec.index' (r := Act.av x1) (fs := [.sc (.int .i64 x1.Kind), .sc (.int .i64 x1.Port), .sc (.int .i64 x1.Field), .sc (.int .u64 x1.Value)]) hG (rows := List.map Act.av s2) (j := ((t13 : Nat) : Int)) (by kernel_rfl) (ixO_map hv _) (by kernel_rfl)) (by kernel_rfl) rfl (by kernel_rfl) rfl ?_
      refine DK.seg hG 1 [0, 1, 12, 13, 19, 23] (t' := [(0, .sl 60 (List.map Act.av s1) f_s1), (1, .sl 60 (List.map Act.av s2) f_s2), (12, .sc (.int .i64 (((List.map Act.av s1).length : Nat) : Int))), (13, .sc (.int .i64 ((t13 : Nat) : Int))), (19, Act.av x), (23, Act.av x1)]) (h' := []) (by kernel_rfl) rfl ?_
      refine DK.op' [0, 1, 12, 13, 24] (t' := [(0, .sl 60 (List.map Act.av s1) f_s1), (1, .sl 60 (List.map Act.av s2) f_s2), (12, .sc (.int .i64 (((List.map Act.av s1).length : Nat) : Int))), (13, .sc (.int .i64 ((t13 : Nat) : Int))), (24, .sc (.bool (!((x.Kind == x1.Kind) && ((x.Port == x1.Port) && ((x.Field == x1.Field) && (x.Value == x1.Value)))))))]) (h' := []) (LSpec.eq' 9 (r := (!((x.Kind == x1.Kind) && ((x.Port == x1.Port) && ((x.Field == x1.Field) && (x.Value == x1.Value)))))) (by kernel_rfl)) (by kernel_rfl) rfl (by kernel_rfl) rfl ?_
      refine DK.done (by kernel_rfl) (by kernel_rfl) ?_
      refine AR.cond (.tmp 24) (!((x.Kind == x1.Kind) && ((x.Port == x1.Port) && ((x.Field == x1.Field) && (x.Value == x1.Value))))) (by kernel_rfl) (by kernel_rfl) (fun hb => ?ht10) (fun hb => ?hf10)
      case ht10 =>
        replace H := cond_t hb H
        refine AR.seg hG hm 2 [4] (k' := [.code [1, 1, 0, 1, 0, 0, 1, 1, 0, 0, 1, 1, 0, 1], .blk 1, .code [1, 1, 0, 1, 0, 0, 1, 1, 1], .loop [1, 1, 0, 1, 0], .blk 0, .code [1, 1, 1]]) (t' := [(4, .sc (.bool false))]) (h' := []) (by kernel_rfl) ?_
        obtain rfl := Option.some.inj H
        obtain rfl := Jr _ rfl
        exact AR.ret0 (fn := Try.f83) hG Try.func83 (by kernel_rfl) hc0 (r0 := .sc (.bool false)) (by kernel_rfl) (WkV.refl _)
      case hf10 =>
        replace H := cond_f hb H
        refine AR.seg hG hm 3 [0, 1, 12, 13] (k' := [.loop [1, 1, 0, 1, 0], .blk 0, .code [1, 1, 1]]) (t' := [(0, .sl 60 (List.map Act.av s1) f_s1), (1, .sl 60 (List.map Act.av s2) f_s2), (12, .sc (.int .i64 (((List.map Act.av s1).length : Nat) : Int))), (13, .sc (.int .i64 (IntKind.i64.wrap (((t13 : Nat) : Int) + 1))))]) (h' := []) (by kernel_rfl) ?_
        refine AR.keep [0, 1, 12, 13] (t' := [(0, .sl 60 (List.map Act.av s1) f_s1), (1, .sl 60 (List.map Act.av s2) f_s2), (12, .sc (.int .i64 (((List.map Act.av s1).length : Nat) : Int))), (13, .sc (.int .i64 (IntKind.i64.wrap (((t13 : Nat) : Int) + 1))))]) (by kernel_rfl) ?_
        refine AR.loop_round ?_
        rw [hw]
        exact ih (t13 + 1) hd2 H
    case hf9 => exact absurd (hc.symm.trans hb) (by decide)

def slices_Equal__api_Act_raw (s1 : List Act) (s2 : List Act) : Option (Bool) :=
  (bif ((((List.map Act.av s1).length : Nat) : Int) != (((List.map Act.av s2).length : Nat) : Int)) then
    some false
  else
    loopO (slices_Equal__api_Act_l0s s2 s1 0) fun v =>
    some true)
theorem slices_Equal__api_Act_walk (s1 : List Act) (s2 : List Act) (f_s1 : Bool) (f_s2 : Bool) (r : Bool) (H : slices_Equal__api_Act_raw s1 s2 = some r) :
    ACalls Try.prog tab.S 83 [.sl 60 (List.map Act.av s1) f_s1, .sl 60 (List.map Act.av s2) f_s2] [] (.sc (.bool r)) [] := by
  have hG := tab_ok
  have hm := mixed
  refine ACalls.of_AR (G := tab) slices_Equal__api_Act_F (fn := Try.f83) Try.func83 (by kernel_rfl) (by kernel_rfl) (by kernel_rfl) (Nat.le_of_ble_eq_true (by kernel_rfl)) ?_
  intro c0 hc0
  replace hc0 : c0.m.length = 0 := hc0
  rw [slices_Equal__api_Act_raw] at H
  refine AR.seg hG hm 5 [0, 1, 10] (k' := [.code [1, 0, 1], .code [1, 1]]) (t' := [(0, .sl 60 (List.map Act.av s1) f_s1), (1, .sl 60 (List.map Act.av s2) f_s2), (10, .sc (.bool ((((List.map Act.av s1).length : Nat) : Int) != (((List.map Act.av s2).length : Nat) : Int))))]) (h' := []) (by kernel_rfl) ?_
  refine AR.cond (.tmp 10) ((((List.map Act.av s1).length : Nat) : Int) != (((List.map Act.av s2).length : Nat) : Int)) (by kernel_rfl) (by kernel_rfl) (fun hb => ?ht1) (fun hb => ?hf1)
  case ht1 =>
    replace H := cond_t hb H
    refine AR.seg hG hm 2 [4] (k' := [.code [1, 0, 1, 0, 1], .code [1, 1]]) (t' := [(4, .sc (.bool false))]) (h' := []) (by kernel_rfl) ?_
    obtain rfl := Option.some.inj H
    exact AR.ret0 (fn := Try.f83) hG Try.func83 (by kernel_rfl) hc0 (r0 := .sc (.bool false)) (by kernel_rfl) (WkV.refl _)
  case hf1 =>
    replace H := cond_f hb H
    refine AR.seg hG hm 5 [0, 1, 12, 13] (k' := [.code [1, 1, 0, 1, 0], .blk 0, .code [1, 1, 1]]) (t' := [(0, .sl 60 (List.map Act.av s1) f_s1), (1, .sl 60 (List.map Act.av s2) f_s2), (12, .sc (.int .i64 (((List.map Act.av s1).length : Nat) : Int))), (13, .sc (.int .i64 0))]) (h' := []) (by kernel_rfl) ?_
    rcases loopO_some H with ⟨v, hv, H⟩ | hv
    case inr =>
      refine AR.into (by kernel_rfl) ?_
      exact slices_Equal__api_Act_l0_walk s1 s2 f_s1 f_s2 _ c0 hc0 (.inr _) (fun _ e => by cases e) (fun _ e => (Sum.inr.inj e).symm) s1 0 rfl hv
    refine AR.into (by kernel_rfl) ?_
    refine slices_Equal__api_Act_l0_walk s1 s2 f_s1 f_s2 r c0 hc0 (.inl v) (fun w e => ?_) (fun _ e => by cases e) s1 0 rfl hv
    have e := Sum.inl.inj e
    subst e
    refine AR.seg hG hm 2 [4] (k' := [.code [1, 1, 1, 1]]) (t' := [(4, .sc (.bool true))]) (h' := []) (by kernel_rfl) ?_
    obtain rfl := Option.some.inj H
    exact AR.ret0 (fn := Try.f83) hG Try.func83 (by kernel_rfl) hc0 (r0 := .sc (.bool true)) (by kernel_rfl) (WkV.refl _)

theorem slices_Equal__api_Act_ok (a b : List Act) (f_a f_b : Bool) : ACalls Try.prog tab.S 83 [.sl 60 (List.map Act.av a) f_a, .sl 60 (List.map Act.av b) f_b] [] (.sc (.bool (a == b))) [] := by
  refine slices_Equal__api_Act_walk a b f_a f_b _ ?_
  rw [slices_Equal__api_Act_raw, len_bne]
  by_cases h : a.length = b.length
  · simp only [h, decide_true, Bool.not_true, cond_false]
    rw [cmp_loop (v := false) (slices_Equal__api_Act_l0s b) b (fun x y => x == y) (fun _ => rfl) (fun x r i => by rw [slices_Equal__api_Act_l0s]; simp only [Act.beq_eq]) a 0 (by omega), List.drop_zero, zipAll_beq]
    cases a == b <;> rfl
  · have e : (a == b) = false := by
      rw [beq_eq_false_iff_ne]
      intro e
      exact h (by rw [e])
    rw [e]
    simp only [h, decide_false, Bool.not_false, cond_true]

/-! ### act.Same: function 71 -/
noncomputable def act_Same_F : Go.Sh.Fn := ⟨71, bodyOf Try.f71, 8⟩
def act_Same_k0 : List Kd := [.pure, .pure, .pure, .pure]
def act_Same (a : List Act) (b : List Act) : Bool :=
  (a == b)
theorem act_Same_walk (a : List Act) (b : List Act) (f_a : Bool) (f_b : Bool) (r : Bool) (H : act_Same a b = r) :
    ACalls Try.prog tab.S 71 [.sl 60 (List.map Act.av a) f_a, .sl 60 (List.map Act.av b) f_b] [] (.sc (.bool r)) [] := by
  have hG := tab_ok
  have hm := mixed
  refine ACalls.of_AR (G := tab) act_Same_F (fn := Try.f71) Try.func71 (by kernel_rfl) (by kernel_rfl) (by kernel_rfl) (Nat.le_of_ble_eq_true (by kernel_rfl)) ?_
  intro c0 hc0
  replace hc0 : c0.m.length = 0 := hc0
  rw [act_Same] at H
  refine AR.seg hG hm 3 [0, 1] (k' := [.code [1, 0], .code [1, 1]]) (t' := [(0, .sl 60 (List.map Act.av a) f_a), (1, .sl 60 (List.map Act.av b) f_b)]) (h' := []) (by kernel_rfl) ?_
  refine AR.reg hm act_Same_k0 (by kernel_rfl) ?_
  refine DK.seg hG 2 [5, 6] (t' := [(5, .sl 60 (List.map Act.av a) f_a), (6, .sl 60 (List.map Act.av b) f_b)]) (h' := []) (by kernel_rfl) rfl ?_
  refine DK.op' [7] (t' := [(7, .sc (.bool (a == b)))]) (h' := []) (LSpec.callP' (slices_Equal__api_Act_ok a b f_a f_b) (by kernel_rfl)) (by kernel_rfl) rfl (by kernel_rfl) rfl ?_
  refine DK.seg hG 1 [4] (t' := [(4, .sc (.bool (a == b)))]) (h' := []) (by kernel_rfl) rfl ?_
  refine DK.done (by kernel_rfl) (by kernel_rfl) ?_
  subst H
  exact AR.ret0 (fn := Try.f71) hG Try.func71 (by kernel_rfl) hc0 (r0 := .sc (.bool (a == b))) (by kernel_rfl) (WkV.refl _)
theorem act_Same_calls (a : List Act) (b : List Act) (f_a : Bool) (f_b : Bool) : ACalls Try.prog tab.S 71 [.sl 60 (List.map Act.av a) f_a, .sl 60 (List.map Act.av b) f_b] [] (.sc (.bool (act_Same a b))) [] := act_Same_walk a b f_a f_b _ rfl

/-! ### podestaref04.SameActs: function 41 -/
noncomputable def podestaref04_SameActs_F : Go.Sh.Fn := ⟨41, bodyOf Try.f41, 26⟩
def podestaref04_SameActs_k0 : List Kd := [.pure, .pure, .pure, .pure, .pure, .pure, .pure, .pure, .pure]
def podestaref04_SameActs_l0s (b : List Act) : List Act → Nat → Option (Sum (Unit) (Bool))
  | [], i =>
    some (.inl ())
  | x :: rest, i =>
    (ixO b ((i : Nat) : Int)).bind fun x1 =>
    (bif (!((x.Kind == x1.Kind) && ((x.Port == x1.Port) && ((x.Field == x1.Field) && (x.Value == x1.Value))))) then
      some (.inr false)
    else
      podestaref04_SameActs_l0s b rest (i + 1) )
theorem podestaref04_SameActs_l0_walk (a : List Act) (b : List Act) (f_a : Bool) (f_b : Bool) (r : Bool) (c0 : Ctx) (hc0 : c0.m.length = 0) (res : Sum (Unit) (Bool)) (J : ∀ w : Unit, res = .inl w → AR Try.prog tab podestaref04_SameActs_F c0 (Rp tab.S c0 (.sc (.bool r)) []) [.code [1, 1, 1]] [] []) (Jr : ∀ w, res = .inr w → w = r) :
    ∀ (rest : List Act) (i : Nat) (hd : a.drop i = rest) (H : podestaref04_SameActs_l0s b rest i = some res), AR Try.prog tab podestaref04_SameActs_F c0 (Rp tab.S c0 (.sc (.bool r)) []) [.code [1, 1, 0, 1, 0, 0], .loop [1, 1, 0, 1, 0], .blk 0, .code [1, 1, 1]] [(0, .sl 60 (List.map Act.av a) f_a), (1, .sl 60 (List.map Act.av b) f_b), (5, .sc (.int .i64 ((i : Nat) : Int)))] [] := by
  have hG := tab_ok
  have hm := mixed
  intro rest
  induction rest with
  | nil =>
    intro i hd  H
    rw [podestaref04_SameActs_l0s] at H
    refine AR.facts 0 rfl fun hf => ?_
    have hlen : a.length ≤ 9223372036854775807 := by have hq := len_ok hf.2.1; rw [List.length_map] at hq; exact hq
    have hge : a.length ≤ i := List.drop_eq_nil_iff.1 hd
    have hc : (decide (((i : Nat) : Int) < (((List.map Act.av a).length : Nat) : Int))) = false := by rw [List.length_map]; exact decide_eq_false (by omega)
    refine AR.seg hG hm 3 [0, 1, 5, 14] (k' := [.code [1, 1, 0, 1, 0, 0, 0, 1], .code [1, 1, 0, 1, 0, 0, 1], .loop [1, 1, 0, 1, 0], .blk 0, .code [1, 1, 1]]) (t' := [(0, .sl 60 (List.map Act.av a) f_a), (1, .sl 60 (List.map Act.av b) f_b), (5, .sc (.int .i64 ((i : Nat) : Int))), (14, .sc (.bool (decide (((i : Nat) : Int) < (((List.map Act.av a).length : Nat) : Int)))))]) (h' := []) (by kernel_rfl) ?_
    refine AR.cond (.tmp 14) (decide (((i : Nat) : Int) < (((List.map Act.av a).length : Nat) : Int))) (by kernel_rfl) (by kernel_rfl) (fun hb => ?ht8) (fun hb => ?hf8)
    case ht8 => exact absurd (hb.symm.trans hc) (by decide)
    case hf8 =>
      refine AR.seg hG hm 1 [] (k' := [.code [1, 1, 1]]) (t' := []) (h' := []) (by kernel_rfl) ?_
      refine AR.keep [] (t' := []) (by kernel_rfl) ?_
      exact J () (Option.some.inj H).symm
  | cons x rest ih =>
    intro i hd  H
    rw [podestaref04_SameActs_l0s] at H
    refine AR.facts 0 rfl fun hf => ?_
    have hlen : a.length ≤ 9223372036854775807 := by have hq := len_ok hf.2.1; rw [List.length_map] at hq; exact hq
    obtain ⟨hlt, hv_i, hd2⟩ := drop_cons hd
    have hc : (decide (((i : Nat) : Int) < (((List.map Act.av a).length : Nat) : Int))) = true := by rw [List.length_map]; exact decide_eq_true (by omega)
    have hw : IntKind.i64.wrap (((i : Nat) : Int) + 1) = ((i + 1 : Nat) : Int) := wrapI_succ (by omega)
    refine AR.seg hG hm 3 [0, 1, 5, 14] (k' := [.code [1, 1, 0, 1, 0, 0, 0, 1], .code [1, 1, 0, 1, 0, 0, 1], .loop [1, 1, 0, 1, 0], .blk 0, .code [1, 1, 1]]) (t' := [(0, .sl 60 (List.map Act.av a) f_a), (1, .sl 60 (List.map Act.av b) f_b), (5, .sc (.int .i64 ((i : Nat) : Int))), (14, .sc (.bool (decide (((i : Nat) : Int) < (((List.map Act.av a).length : Nat) : Int)))))]) (h' := []) (by kernel_rfl) ?_
    refine AR.cond (.tmp 14) (decide (((i : Nat) : Int) < (((List.map Act.av a).length : Nat) : Int))) (by kernel_rfl) (by kernel_rfl) (fun hb => ?ht9) (fun hb => ?hf9)
    case ht9 =>
      refine AR.seg hG hm 4 [0, 1, 5] (k' := [.code [1, 1, 0, 1, 0, 0, 1, 0, 0, 0], .code [1, 1, 0, 1, 0, 0, 1, 0, 0, 1], .blk 1, .code [1, 1, 0, 1, 0, 0, 1, 1], .loop [1, 1, 0, 1, 0], .blk 0, .code [1, 1, 1]]) (t' := [(0, .sl 60 (List.map Act.av a) f_a), (1, .sl 60 (List.map Act.av b) f_b), (5, .sc (.int .i64 ((i : Nat) : Int)))]) (h' := []) (by kernel_rfl) ?_
      refine AR.reg hm podestaref04_SameActs_k0 (by kernel_rfl) ?_
      refine DK.seg hG 2 [0, 1, 5, 17, 18] (t' := [(0, .sl 60 (List.map Act.av a) f_a), (1, .sl 60 (List.map Act.av b) f_b), (5, .sc (.int .i64 ((i : Nat) : Int))), (17, .sl 60 (List.map Act.av a) f_a), (18, .sc (.int .i64 ((i : Nat) : Int)))]) (h' := []) (by kernel_rfl) rfl ?_
      refine DK.op' [0, 1, 5, 19] (t' := [(0, .sl 60 (List.map Act.av a) f_a), (1, .sl 60 (List.map Act.av b) f_b), (5, .sc (.int .i64 ((i : Nat) : Int))), (19, .ep [.sc (.int .i64 x.Kind), .sc (.int .i64 x.Port), .sc (.int .i64 x.Field), .sc (.int .u64 x.Value)] 0 none)]) (h' := []) (LSpec.index' (r := Act.av x) (fs := [.sc (.int .i64 x.Kind), .sc (.int .i64 x.Port), .sc (.int .i64 x.Field), .sc (.int .u64 x.Value)]) hG (rows := List.map Act.av a) (j := ((i : Nat) : Int)) (by kernel_rfl) (ixO_map hv_i _) (by kernel_rfl)) (by kernel_rfl) rfl (by kernel_rfl) rfl ?_
      refine DK.seg hG 3 [0, 1, 5, 20, 21, 22] (t' := [(0, .sl 60 (List.map Act.av a) f_a), (1, .sl 60 (List.map Act.av b) f_b), (5, .sc (.int .i64 ((i : Nat) : Int))), (20, Act.av x), (21, .sl 60 (List.map Act.av b) f_b), (22, .sc (.int .i64 ((i : Nat) : Int)))]) (h' := []) (by kernel_rfl) rfl ?_
      obtain ⟨x1, hv, H⟩ := Option.bind_eq_some_iff.1 H
      refine DK.op' [0, 1, 5, 20, 23] (t' := [(0, .sl 60 (List.map Act.av a) f_a), (1, .sl 60 (List.map Act.av b) f_b), (5, .sc (.int .i64 ((i : Nat) : Int))), (20, Act.av x), (23, .ep [.sc (.int .i64 x1.Kind), .sc (.int .i64 x1.Port), .sc (.int .i64 x1.Field), .sc (.int .u64 x1.Value)] 0 none)]) (h' := []) (LSpec.index' (r := Act.av x1) (fs := [.sc (.int .i64 x1.Kind), .sc (.int .i64 x1.Port), .sc (.int .i64 x1.Field), .sc (.int .u64 x1.Value)]) hG (rows := List.map Act.av b) (j := ((i : Nat) : Int)) (by kernel_rfl) (ixO_map hv _) (by kernel_rfl)) (by kernel_rfl) rfl (by kernel_rfl) rfl ?_
      refine DK.seg hG 1 [0, 1, 5, 20, 24] (t' := [(0, .sl 60 (List.map Act.av a) f_a), (1, .sl 60 (List.map Act.av b) f_b), (5, .sc (.int .i64 ((i : Nat) : Int))), (20, Act.av x), (24, Act.av x1)]) (h' := []) (by kernel_rfl) rfl ?_
      refine DK.op' [0, 1, 5, 25] (t' := [(0, .sl 60 (List.map Act.av a) f_a), (1, .sl 60 (List.map Act.av b) f_b), (5, .sc (.int .i64 ((i : Nat) : Int))), (25, .sc (.bool (!((x.Kind == x1.Kind) && ((x.Port == x1.Port) && ((x.Field == x1.Field) && (x.Value == x1.Value)))))))]) (h' := []) (LSpec.eq' 9 (r := (!((x.Kind == x1.Kind) && ((x.Port == x1.Port) && ((x.Field == x1.Field) && (x.Value == x1.Value)))))) (by kernel_rfl)) (by kernel_rfl) rfl (by kernel_rfl) rfl ?_
      refine DK.done (by kernel_rfl) (by kernel_rfl) ?_
      refine AR.cond (.tmp 25) (!((x.Kind == x1.Kind) && ((x.Port == x1.Port) && ((x.Field == x1.Field) && (x.Value == x1.Value))))) (by kernel_rfl) (by kernel_rfl) (fun hb => ?ht10) (fun hb => ?hf10)
      case ht10 =>
        replace H := cond_t hb H
        refine AR.seg hG hm 2 [4] (k' := [.code [1, 1, 0, 1, 0, 0, 1, 0, 0, 1, 0, 1], .blk 1, .code [1, 1, 0, 1, 0, 0, 1, 1], .loop [1, 1, 0, 1, 0], .blk 0, .code [1, 1, 1]]) (t' := [(4, .sc (.bool false))]) (h' := []) (by kernel_rfl) ?_
        obtain rfl := Option.some.inj H
        obtain rfl := Jr _ rfl
        exact AR.ret0 (fn := Try.f41) hG Try.func41 (by kernel_rfl) hc0 (r0 := .sc (.bool false)) (by kernel_rfl) (WkV.refl _)
      case hf10 =>
        replace H := cond_f hb H
        refine AR.seg hG hm 3 [0, 1, 5] (k' := [.loop [1, 1, 0, 1, 0], .blk 0, .code [1, 1, 1]]) (t' := [(0, .sl 60 (List.map Act.av a) f_a), (1, .sl 60 (List.map Act.av b) f_b), (5, .sc (.int .i64 (IntKind.i64.wrap (((i : Nat) : Int) + 1))))]) (h' := []) (by kernel_rfl) ?_
        refine AR.keep [0, 1, 5] (t' := [(0, .sl 60 (List.map Act.av a) f_a), (1, .sl 60 (List.map Act.av b) f_b), (5, .sc (.int .i64 (IntKind.i64.wrap (((i : Nat) : Int) + 1))))]) (by kernel_rfl) ?_
        refine AR.loop_round ?_
        rw [hw]
        exact ih (i + 1) hd2 H
    case hf9 => exact absurd (hc.symm.trans hb) (by decide)

def podestaref04_SameActs_raw (a : List Act) (b : List Act) : Option (Bool) :=
  (bif ((((List.map Act.av a).length : Nat) : Int) != (((List.map Act.av b).length : Nat) : Int)) then
    some false
  else
    loopO (podestaref04_SameActs_l0s b a 0) fun v =>
    some true)
theorem podestaref04_SameActs_walk (a : List Act) (b : List Act) (f_a : Bool) (f_b : Bool) (r : Bool) (H : podestaref04_SameActs_raw a b = some r) :
    ACalls Try.prog tab.S 41 [.sl 60 (List.map Act.av a) f_a, .sl 60 (List.map Act.av b) f_b] [] (.sc (.bool r)) [] := by
  have hG := tab_ok
  have hm := mixed
  refine ACalls.of_AR (G := tab) podestaref04_SameActs_F (fn := Try.f41) Try.func41 (by kernel_rfl) (by kernel_rfl) (by kernel_rfl) (Nat.le_of_ble_eq_true (by kernel_rfl)) ?_
  intro c0 hc0
  replace hc0 : c0.m.length = 0 := hc0
  rw [podestaref04_SameActs_raw] at H
  refine AR.seg hG hm 5 [0, 1, 10] (k' := [.code [1, 0, 1], .code [1, 1]]) (t' := [(0, .sl 60 (List.map Act.av a) f_a), (1, .sl 60 (List.map Act.av b) f_b), (10, .sc (.bool ((((List.map Act.av a).length : Nat) : Int) != (((List.map Act.av b).length : Nat) : Int))))]) (h' := []) (by kernel_rfl) ?_
  refine AR.cond (.tmp 10) ((((List.map Act.av a).length : Nat) : Int) != (((List.map Act.av b).length : Nat) : Int)) (by kernel_rfl) (by kernel_rfl) (fun hb => ?ht1) (fun hb => ?hf1)
  case ht1 =>
    replace H := cond_t hb H
    refine AR.seg hG hm 2 [4] (k' := [.code [1, 0, 1, 0, 1], .code [1, 1]]) (t' := [(4, .sc (.bool false))]) (h' := []) (by kernel_rfl) ?_
    obtain rfl := Option.some.inj H
    exact AR.ret0 (fn := Try.f41) hG Try.func41 (by kernel_rfl) hc0 (r0 := .sc (.bool false)) (by kernel_rfl) (WkV.refl _)
  case hf1 =>
    replace H := cond_f hb H
    refine AR.seg hG hm 5 [0, 1, 5] (k' := [.code [1, 1, 0, 1, 0], .blk 0, .code [1, 1, 1]]) (t' := [(0, .sl 60 (List.map Act.av a) f_a), (1, .sl 60 (List.map Act.av b) f_b), (5, .sc (.int .i64 0))]) (h' := []) (by kernel_rfl) ?_
    rcases loopO_some H with ⟨v, hv, H⟩ | hv
    case inr =>
      refine AR.into (by kernel_rfl) ?_
      exact podestaref04_SameActs_l0_walk a b f_a f_b _ c0 hc0 (.inr _) (fun _ e => by cases e) (fun _ e => (Sum.inr.inj e).symm) a 0 rfl hv
    refine AR.into (by kernel_rfl) ?_
    refine podestaref04_SameActs_l0_walk a b f_a f_b r c0 hc0 (.inl v) (fun w e => ?_) (fun _ e => by cases e) a 0 rfl hv
    have e := Sum.inl.inj e
    subst e
    refine AR.seg hG hm 2 [4] (k' := [.code [1, 1, 1, 1]]) (t' := [(4, .sc (.bool true))]) (h' := []) (by kernel_rfl) ?_
    obtain rfl := Option.some.inj H
    exact AR.ret0 (fn := Try.f41) hG Try.func41 (by kernel_rfl) hc0 (r0 := .sc (.bool true)) (by kernel_rfl) (WkV.refl _)

theorem podestaref04_SameActs_ok (a b : List Act) (f_a f_b : Bool) : ACalls Try.prog tab.S 41 [.sl 60 (List.map Act.av a) f_a, .sl 60 (List.map Act.av b) f_b] [] (.sc (.bool (a == b))) [] := by
  refine podestaref04_SameActs_walk a b f_a f_b _ ?_
  rw [podestaref04_SameActs_raw, len_bne]
  by_cases h : a.length = b.length
  · simp only [h, decide_true, Bool.not_true, cond_false]
    rw [cmp_loop (v := false) (podestaref04_SameActs_l0s b) b (fun x y => x == y) (fun _ => rfl) (fun x r i => by rw [podestaref04_SameActs_l0s]; simp only [Act.beq_eq]) a 0 (by omega), List.drop_zero, zipAll_beq]
    cases a == b <;> rfl
  · have e : (a == b) = false := by
      rw [beq_eq_false_iff_ne]
      intro e
      exact h (by rw [e])
    rw [e]
    simp only [h, decide_false, Bool.not_false, cond_true]

/-! ### rule.Equal: function 49 -/
noncomputable def rule_Equal_F : Go.Sh.Fn := ⟨49, bodyOf Try.f49, 63⟩
def rule_Equal_k1 : List Kd := [.pure, .pure, .pure, .pure, .pure, .pure, .read, .read, .pure, .pure, .pure, .pure, .read, .pure, .read, .pure, .pure, .pure, .pure, .read, .pure, .read, .pure, .pure, .pure, .pure, .read, .pure, .read, .pure, .pure, .pure, .pure, .read, .pure, .read, .pure, .pure, .pure, .pure, .read, .pure, .read, .pure, .pure, .pure, .pure, .read, .pure, .read, .pure, .pure, .pure]
def rule_Equal_k2 : List Kd := [.pure, .pure, .pure, .pure, .pure, .pure, .read, .read, .pure, .pure, .pure, .pure, .read, .pure, .read, .pure, .pure, .pure, .pure, .read, .pure, .read, .pure, .pure, .pure, .pure, .read, .pure, .read, .pure, .pure, .pure, .pure, .read, .pure, .read, .pure, .pure, .pure, .pure, .read, .pure, .read, .pure, .pure, .pure, .pure, .read, .pure, .read, .pure, .pure, .pure]
def rule_Equal_k0 : List Kd := [.pure, .pure, .pure]
def rule_Equal (a : Rule) (b : Rule) : Bool :=
  ((((((((act_Same a.Acts b.Acts) && (rule_Key ({ a with Acts := [] } : Rule) ({ b with Acts := [] } : Rule))) && (a.Idle == b.Idle)) && (a.Hard == b.Hard)) && (a.Owner == b.Owner)) && (a.Hits == b.Hits)) && (a.Quiet == b.Quiet)) && (a.Age == b.Age))
theorem rule_Equal_walk (a : Rule) (b : Rule) (r : Bool) (H : rule_Equal a b = r) :
    ACalls Try.prog tab.S 49 [Rule.av a, Rule.av b] [] (.sc (.bool r)) [] := by
  have hG := tab_ok
  have hm := mixed
  refine ACalls.of_AR (G := tab) rule_Equal_F (fn := Try.f49) Try.func49 (by kernel_rfl) (by kernel_rfl) (by kernel_rfl) (Nat.le_of_ble_eq_true (by kernel_rfl)) ?_
  intro c0 hc0
  replace hc0 : c0.m.length = 0 := hc0
  rw [rule_Equal] at H
  refine AR.seg hG hm 1 [0, 1] (k' := [.code [0], .code [1]]) (t' := [(0, Rule.av a), (1, Rule.av b)]) (h' := []) (by kernel_rfl) ?_
  refine AR.reg hm rule_Equal_k0 (by kernel_rfl) ?_
  refine DK.op' [1, 2] (t' := [(1, Rule.av b), (2, .ep [.arr .u64 12 a.Match.Value, .arr .u64 12 a.Match.Care, .sc (.int .i64 a.Prio), .sl 60 (List.map Act.av a.Acts) false, .sc (.int .i64 a.Idle), .sc (.int .i64 a.Hard), .sc (.int .i64 a.Owner), .sc (.int .i64 a.Hits), .sc (.int .i64 a.Quiet), .sc (.int .i64 a.Age)] 0 none)]) (h' := []) (LSpec.boxP (fs := (Rule.ch a)) (by kernel_rfl)) (by kernel_rfl) rfl (by kernel_rfl) rfl ?_
  refine DK.op' [2, 3] (t' := [(2, .ep [.arr .u64 12 a.Match.Value, .arr .u64 12 a.Match.Care, .sc (.int .i64 a.Prio), .sl 60 (List.map Act.av a.Acts) false, .sc (.int .i64 a.Idle), .sc (.int .i64 a.Hard), .sc (.int .i64 a.Owner), .sc (.int .i64 a.Hits), .sc (.int .i64 a.Quiet), .sc (.int .i64 a.Age)] 0 none), (3, .ep [.arr .u64 12 b.Match.Value, .arr .u64 12 b.Match.Care, .sc (.int .i64 b.Prio), .sl 60 (List.map Act.av b.Acts) false, .sc (.int .i64 b.Idle), .sc (.int .i64 b.Hard), .sc (.int .i64 b.Owner), .sc (.int .i64 b.Hits), .sc (.int .i64 b.Quiet), .sc (.int .i64 b.Age)] 0 none)]) (h' := []) (LSpec.boxP (fs := (Rule.ch b)) (by kernel_rfl)) (by kernel_rfl) rfl (by kernel_rfl) rfl ?_
  refine DK.seg hG 1 [2, 3] (t' := [(2, .ep [.arr .u64 12 a.Match.Value, .arr .u64 12 a.Match.Care, .sc (.int .i64 a.Prio), .sl 60 (List.map Act.av a.Acts) false, .sc (.int .i64 a.Idle), .sc (.int .i64 a.Hard), .sc (.int .i64 a.Owner), .sc (.int .i64 a.Hits), .sc (.int .i64 a.Quiet), .sc (.int .i64 a.Age)] 0 none), (3, .ep [.arr .u64 12 b.Match.Value, .arr .u64 12 b.Match.Care, .sc (.int .i64 b.Prio), .sl 60 (List.map Act.av b.Acts) false, .sc (.int .i64 b.Idle), .sc (.int .i64 b.Hard), .sc (.int .i64 b.Owner), .sc (.int .i64 b.Hits), .sc (.int .i64 b.Quiet), .sc (.int .i64 b.Age)] 0 none)]) (h' := []) (by kernel_rfl) rfl ?_
  refine DK.done (by kernel_rfl) (by kernel_rfl) ?_
  refine AR.seg hG hm 1 [2, 3] (k' := [.code [1, 0], .code [1, 1]]) (t' := [(2, .ep [.arr .u64 12 a.Match.Value, .arr .u64 12 a.Match.Care, .sc (.int .i64 a.Prio), .sl 60 (List.map Act.av a.Acts) false, .sc (.int .i64 a.Idle), .sc (.int .i64 a.Hard), .sc (.int .i64 a.Owner), .sc (.int .i64 a.Hits), .sc (.int .i64 a.Quiet), .sc (.int .i64 a.Age)] 0 none), (3, .ep [.arr .u64 12 b.Match.Value, .arr .u64 12 b.Match.Care, .sc (.int .i64 b.Prio), .sl 60 (List.map Act.av b.Acts) false, .sc (.int .i64 b.Idle), .sc (.int .i64 b.Hard), .sc (.int .i64 b.Owner), .sc (.int .i64 b.Hits), .sc (.int .i64 b.Quiet), .sc (.int .i64 b.Age)] 0 none)]) (h' := []) (by kernel_rfl) ?_
  refine AR.regX hG hm [2, 3, 5, 6] [true, false, true, true, true, false, false, false, true, false, true, true, false, false, true, true, true, true, true, true, true, true, false, false, false, false, false, false, false, false] ([(2, .ep [.arr .u64 12 a.Match.Value, .arr .u64 12 a.Match.Care, .sc (.int .i64 a.Prio), .sl 60 (List.map Act.av a.Acts) false, .sc (.int .i64 a.Idle), .sc (.int .i64 a.Hard), .sc (.int .i64 a.Owner), .sc (.int .i64 a.Hits), .sc (.int .i64 a.Quiet), .sc (.int .i64 a.Age)] 0 none), (3, .ep [.arr .u64 12 b.Match.Value, .arr .u64 12 b.Match.Care, .sc (.int .i64 b.Prio), .sl 60 (List.map Act.av b.Acts) false, .sc (.int .i64 b.Idle), .sc (.int .i64 b.Hard), .sc (.int .i64 b.Owner), .sc (.int .i64 b.Hits), .sc (.int .i64 b.Quiet), .sc (.int .i64 b.Age)] 0 none), (5, .ptr 0 0 none), (6, .ptr 1 0 none)], [.box 51 (Rule.ch a), .box 51 (Rule.ch b)]) ([(2, .ep [.arr .u64 12 a.Match.Value, .arr .u64 12 a.Match.Care, .sc (.int .i64 a.Prio), .sl 60 (List.map Act.av a.Acts) false, .sc (.int .i64 a.Idle), .sc (.int .i64 a.Hard), .sc (.int .i64 a.Owner), .sc (.int .i64 a.Hits), .sc (.int .i64 a.Quiet), .sc (.int .i64 a.Age)] 0 none), (3, .ep [.arr .u64 12 b.Match.Value, .arr .u64 12 b.Match.Care, .sc (.int .i64 b.Prio), .sl 60 (List.map Act.av b.Acts) false, .sc (.int .i64 b.Idle), .sc (.int .i64 b.Hard), .sc (.int .i64 b.Owner), .sc (.int .i64 b.Hits), .sc (.int .i64 b.Quiet), .sc (.int .i64 b.Age)] 0 none), (5, .ptr 1 0 none), (6, .ptr 0 0 none)], [.box 51 (Rule.ch b), .box 51 (Rule.ch a)]) (by kernel_rfl) (by kernel_rfl) ?xa0 ?xb0
  case xa0 =>
    refine AR.seg hG hm 3 [2, 3, 5, 6] (k' := [.code [1, 1, 1, 0], .code [1, 1, 1, 1]]) (t' := [(2, .ep [.arr .u64 12 a.Match.Value, .arr .u64 12 a.Match.Care, .sc (.int .i64 a.Prio), .sl 60 (List.map Act.av a.Acts) false, .sc (.int .i64 a.Idle), .sc (.int .i64 a.Hard), .sc (.int .i64 a.Owner), .sc (.int .i64 a.Hits), .sc (.int .i64 a.Quiet), .sc (.int .i64 a.Age)] 0 none), (3, .ep [.arr .u64 12 b.Match.Value, .arr .u64 12 b.Match.Care, .sc (.int .i64 b.Prio), .sl 60 (List.map Act.av b.Acts) false, .sc (.int .i64 b.Idle), .sc (.int .i64 b.Hard), .sc (.int .i64 b.Owner), .sc (.int .i64 b.Hits), .sc (.int .i64 b.Quiet), .sc (.int .i64 b.Age)] 0 none), (5, .ptr 0 0 none), (6, .ptr 1 0 none)]) (h' := [.box 51 [.arr .u64 12 a.Match.Value, .arr .u64 12 a.Match.Care, .sc (.int .i64 a.Prio), .sl 0 [] true, .sc (.int .i64 a.Idle), .sc (.int .i64 a.Hard), .sc (.int .i64 a.Owner), .sc (.int .i64 a.Hits), .sc (.int .i64 a.Quiet), .sc (.int .i64 a.Age)], .box 51 [.arr .u64 12 b.Match.Value, .arr .u64 12 b.Match.Care, .sc (.int .i64 b.Prio), .sl 0 [] true, .sc (.int .i64 b.Idle), .sc (.int .i64 b.Hard), .sc (.int .i64 b.Owner), .sc (.int .i64 b.Hits), .sc (.int .i64 b.Quiet), .sc (.int .i64 b.Age)]]) (by kernel_rfl) ?_
    refine AR.reg hm rule_Equal_k1 (by kernel_rfl) ?_
    refine DK.seg hG 4 [5, 6, 12, 14] (t' := [(5, .ptr 0 0 none), (6, .ptr 1 0 none), (12, .sl 60 (List.map Act.av a.Acts) false), (14, .sl 60 (List.map Act.av b.Acts) false)]) (h' := [.box 51 [.arr .u64 12 a.Match.Value, .arr .u64 12 a.Match.Care, .sc (.int .i64 a.Prio), .sl 0 [] true, .sc (.int .i64 a.Idle), .sc (.int .i64 a.Hard), .sc (.int .i64 a.Owner), .sc (.int .i64 a.Hits), .sc (.int .i64 a.Quiet), .sc (.int .i64 a.Age)], .box 51 [.arr .u64 12 b.Match.Value, .arr .u64 12 b.Match.Care, .sc (.int .i64 b.Prio), .sl 0 [] true, .sc (.int .i64 b.Idle), .sc (.int .i64 b.Hard), .sc (.int .i64 b.Owner), .sc (.int .i64 b.Hits), .sc (.int .i64 b.Quiet), .sc (.int .i64 b.Age)]]) (by kernel_rfl) rfl ?_
    refine DK.op' [5, 6, 15] (t' := [(5, .ptr 0 0 none), (6, .ptr 1 0 none), (15, .sc (.bool (act_Same a.Acts b.Acts)))]) (h' := [.box 51 [.arr .u64 12 a.Match.Value, .arr .u64 12 a.Match.Care, .sc (.int .i64 a.Prio), .sl 0 [] true, .sc (.int .i64 a.Idle), .sc (.int .i64 a.Hard), .sc (.int .i64 a.Owner), .sc (.int .i64 a.Hits), .sc (.int .i64 a.Quiet), .sc (.int .i64 a.Age)], .box 51 [.arr .u64 12 b.Match.Value, .arr .u64 12 b.Match.Care, .sc (.int .i64 b.Prio), .sl 0 [] true, .sc (.int .i64 b.Idle), .sc (.int .i64 b.Hard), .sc (.int .i64 b.Owner), .sc (.int .i64 b.Hits), .sc (.int .i64 b.Quiet), .sc (.int .i64 b.Age)]]) (LSpec.callP' (act_Same_calls a.Acts b.Acts false false) (by kernel_rfl)) (by kernel_rfl) rfl (by kernel_rfl) rfl ?_
    refine DK.seg hG 1 [5, 6, 16] (t' := [(5, .ptr 0 0 none), (6, .ptr 1 0 none), (16, .sc (.bool (act_Same a.Acts b.Acts)))]) (h' := [.box 51 [.arr .u64 12 a.Match.Value, .arr .u64 12 a.Match.Care, .sc (.int .i64 a.Prio), .sl 0 [] true, .sc (.int .i64 a.Idle), .sc (.int .i64 a.Hard), .sc (.int .i64 a.Owner), .sc (.int .i64 a.Hits), .sc (.int .i64 a.Quiet), .sc (.int .i64 a.Age)], .box 51 [.arr .u64 12 b.Match.Value, .arr .u64 12 b.Match.Care, .sc (.int .i64 b.Prio), .sl 0 [] true, .sc (.int .i64 b.Idle), .sc (.int .i64 b.Hard), .sc (.int .i64 b.Owner), .sc (.int .i64 b.Hits), .sc (.int .i64 b.Quiet), .sc (.int .i64 b.Age)]]) (by kernel_rfl) rfl ?_
    refine DK.mux 16 (act_Same a.Acts b.Acts) (j := 10) (h' := [.box 51 [.arr .u64 12 a.Match.Value, .arr .u64 12 a.Match.Care, .sc (.int .i64 a.Prio), .sl 0 [] true, .sc (.int .i64 a.Idle), .sc (.int .i64 a.Hard), .sc (.int .i64 a.Owner), .sc (.int .i64 a.Hits), .sc (.int .i64 a.Quiet), .sc (.int .i64 a.Age)], .box 51 [.arr .u64 12 b.Match.Value, .arr .u64 12 b.Match.Care, .sc (.int .i64 b.Prio), .sl 0 [] true, .sc (.int .i64 b.Idle), .sc (.int .i64 b.Hard), .sc (.int .i64 b.Owner), .sc (.int .i64 b.Hits), .sc (.int .i64 b.Quiet), .sc (.int .i64 b.Age)]]) (by kernel_rfl) (fun z => [(5, .ptr 0 0 none), (6, .ptr 1 0 none), (20, .sc (.bool (z && (rule_Key ({ a with Acts := [] } : Rule) ({ b with Acts := [] } : Rule)))))]) ?J1 (fun hb J => ?ht1) (fun hb J => ?hf1)
    case ht1 =>
      refine DK.seg hG 2 [5, 6, 16, 17, 18] (t' := [(5, .ptr 0 0 none), (6, .ptr 1 0 none), (16, .sc (.bool true)), (17, .agg [.arr .u64 12 a.Match.Value, .arr .u64 12 a.Match.Care, .sc (.int .i64 a.Prio), .sl 0 [] true, .sc (.int .i64 a.Idle), .sc (.int .i64 a.Hard), .sc (.int .i64 a.Owner), .sc (.int .i64 a.Hits), .sc (.int .i64 a.Quiet), .sc (.int .i64 a.Age)]), (18, .agg [.arr .u64 12 b.Match.Value, .arr .u64 12 b.Match.Care, .sc (.int .i64 b.Prio), .sl 0 [] true, .sc (.int .i64 b.Idle), .sc (.int .i64 b.Hard), .sc (.int .i64 b.Owner), .sc (.int .i64 b.Hits), .sc (.int .i64 b.Quiet), .sc (.int .i64 b.Age)])]) (h' := [.box 51 [.arr .u64 12 a.Match.Value, .arr .u64 12 a.Match.Care, .sc (.int .i64 a.Prio), .sl 0 [] true, .sc (.int .i64 a.Idle), .sc (.int .i64 a.Hard), .sc (.int .i64 a.Owner), .sc (.int .i64 a.Hits), .sc (.int .i64 a.Quiet), .sc (.int .i64 a.Age)], .box 51 [.arr .u64 12 b.Match.Value, .arr .u64 12 b.Match.Care, .sc (.int .i64 b.Prio), .sl 0 [] true, .sc (.int .i64 b.Idle), .sc (.int .i64 b.Hard), .sc (.int .i64 b.Owner), .sc (.int .i64 b.Hits), .sc (.int .i64 b.Quiet), .sc (.int .i64 b.Age)]]) (by kernel_rfl) rfl ?_
      refine DK.op' [5, 6, 16, 19] (t' := [(5, .ptr 0 0 none), (6, .ptr 1 0 none), (16, .sc (.bool true)), (19, .sc (.bool (rule_Key ({ a with Acts := [] } : Rule) ({ b with Acts := [] } : Rule))))]) (h' := [.box 51 [.arr .u64 12 a.Match.Value, .arr .u64 12 a.Match.Care, .sc (.int .i64 a.Prio), .sl 0 [] true, .sc (.int .i64 a.Idle), .sc (.int .i64 a.Hard), .sc (.int .i64 a.Owner), .sc (.int .i64 a.Hits), .sc (.int .i64 a.Quiet), .sc (.int .i64 a.Age)], .box 51 [.arr .u64 12 b.Match.Value, .arr .u64 12 b.Match.Care, .sc (.int .i64 b.Prio), .sl 0 [] true, .sc (.int .i64 b.Idle), .sc (.int .i64 b.Hard), .sc (.int .i64 b.Owner), .sc (.int .i64 b.Hits), .sc (.int .i64 b.Quiet), .sc (.int .i64 b.Age)]]) (LSpec.callP' (ACalls.wk (aas := [.agg [.arr .u64 12 a.Match.Value, .arr .u64 12 a.Match.Care, .sc (.int .i64 a.Prio), .sl 0 [] true, .sc (.int .i64 a.Idle), .sc (.int .i64 a.Hard), .sc (.int .i64 a.Owner), .sc (.int .i64 a.Hits), .sc (.int .i64 a.Quiet), .sc (.int .i64 a.Age)], .agg [.arr .u64 12 b.Match.Value, .arr .u64 12 b.Match.Care, .sc (.int .i64 b.Prio), .sl 0 [] true, .sc (.int .i64 b.Idle), .sc (.int .i64 b.Hard), .sc (.int .i64 b.Owner), .sc (.int .i64 b.Hits), .sc (.int .i64 b.Quiet), .sc (.int .i64 b.Age)]]) (Wks.cons (WkV.agg (WkL.cons (Wk1.refl _) (WkL.cons (Wk1.refl _) (WkL.cons (Wk1.refl _) (WkL.cons (Wk1.nil 60 false) (WkL.cons (Wk1.refl _) (WkL.cons (Wk1.refl _) (WkL.cons (Wk1.refl _) (WkL.cons (Wk1.refl _) (WkL.cons (Wk1.refl _) (WkL.cons (Wk1.refl _) WkL.nil))))))))))) trivial trivial (Wks.cons (WkV.agg (WkL.cons (Wk1.refl _) (WkL.cons (Wk1.refl _) (WkL.cons (Wk1.refl _) (WkL.cons (Wk1.nil 60 false) (WkL.cons (Wk1.refl _) (WkL.cons (Wk1.refl _) (WkL.cons (Wk1.refl _) (WkL.cons (Wk1.refl _) (WkL.cons (Wk1.refl _) (WkL.cons (Wk1.refl _) WkL.nil))))))))))) trivial trivial Wks.nil)) (rule_Key_calls ({ a with Acts := [] } : Rule) ({ b with Acts := [] } : Rule))) (by kernel_rfl)) (by kernel_rfl) rfl (by kernel_rfl) rfl ?_
      exact DK.seg hG 1 [5, 6, 20] (by kernel_rfl) rfl J
    case hf1 =>
      exact DK.seg hG 4 [5, 6, 20] (by kernel_rfl) rfl J
    refine DK.seg hG 1 [5, 6, 21] (t' := [(5, .ptr 0 0 none), (6, .ptr 1 0 none), (21, .sc (.bool ((act_Same a.Acts b.Acts) && (rule_Key ({ a with Acts := [] } : Rule) ({ b with Acts := [] } : Rule)))))]) (h' := [.box 51 [.arr .u64 12 a.Match.Value, .arr .u64 12 a.Match.Care, .sc (.int .i64 a.Prio), .sl 0 [] true, .sc (.int .i64 a.Idle), .sc (.int .i64 a.Hard), .sc (.int .i64 a.Owner), .sc (.int .i64 a.Hits), .sc (.int .i64 a.Quiet), .sc (.int .i64 a.Age)], .box 51 [.arr .u64 12 b.Match.Value, .arr .u64 12 b.Match.Care, .sc (.int .i64 b.Prio), .sl 0 [] true, .sc (.int .i64 b.Idle), .sc (.int .i64 b.Hard), .sc (.int .i64 b.Owner), .sc (.int .i64 b.Hits), .sc (.int .i64 b.Quiet), .sc (.int .i64 b.Age)]]) (by kernel_rfl) rfl ?_
    refine DK.mux 21 ((act_Same a.Acts b.Acts) && (rule_Key ({ a with Acts := [] } : Rule) ({ b with Acts := [] } : Rule))) (j := 17) (h' := [.box 51 [.arr .u64 12 a.Match.Value, .arr .u64 12 a.Match.Care, .sc (.int .i64 a.Prio), .sl 0 [] true, .sc (.int .i64 a.Idle), .sc (.int .i64 a.Hard), .sc (.int .i64 a.Owner), .sc (.int .i64 a.Hits), .sc (.int .i64 a.Quiet), .sc (.int .i64 a.Age)], .box 51 [.arr .u64 12 b.Match.Value, .arr .u64 12 b.Match.Care, .sc (.int .i64 b.Prio), .sl 0 [] true, .sc (.int .i64 b.Idle), .sc (.int .i64 b.Hard), .sc (.int .i64 b.Owner), .sc (.int .i64 b.Hits), .sc (.int .i64 b.Quiet), .sc (.int .i64 b.Age)]]) (by kernel_rfl) (fun z => [(5, .ptr 0 0 none), (6, .ptr 1 0 none), (27, .sc (.bool (z && (a.Idle == b.Idle))))]) ?J2 (fun hb J => ?ht2) (fun hb J => ?hf2)
    case ht2 =>
      exact DK.seg hG 6 [5, 6, 27] (by kernel_rfl) rfl J
    case hf2 =>
      exact DK.seg hG 6 [5, 6, 27] (by kernel_rfl) rfl J
    refine DK.seg hG 1 [5, 6, 28] (t' := [(5, .ptr 0 0 none), (6, .ptr 1 0 none), (28, .sc (.bool (((act_Same a.Acts b.Acts) && (rule_Key ({ a with Acts := [] } : Rule) ({ b with Acts := [] } : Rule))) && (a.Idle == b.Idle))))]) (h' := [.box 51 [.arr .u64 12 a.Match.Value, .arr .u64 12 a.Match.Care, .sc (.int .i64 a.Prio), .sl 0 [] true, .sc (.int .i64 a.Idle), .sc (.int .i64 a.Hard), .sc (.int .i64 a.Owner), .sc (.int .i64 a.Hits), .sc (.int .i64 a.Quiet), .sc (.int .i64 a.Age)], .box 51 [.arr .u64 12 b.Match.Value, .arr .u64 12 b.Match.Care, .sc (.int .i64 b.Prio), .sl 0 [] true, .sc (.int .i64 b.Idle), .sc (.int .i64 b.Hard), .sc (.int .i64 b.Owner), .sc (.int .i64 b.Hits), .sc (.int .i64 b.Quiet), .sc (.int .i64 b.Age)]]) (by kernel_rfl) rfl ?_
    refine DK.mux 28 (((act_Same a.Acts b.Acts) && (rule_Key ({ a with Acts := [] } : Rule) ({ b with Acts := [] } : Rule))) && (a.Idle == b.Idle)) (j := 24) (h' := [.box 51 [.arr .u64 12 a.Match.Value, .arr .u64 12 a.Match.Care, .sc (.int .i64 a.Prio), .sl 0 [] true, .sc (.int .i64 a.Idle), .sc (.int .i64 a.Hard), .sc (.int .i64 a.Owner), .sc (.int .i64 a.Hits), .sc (.int .i64 a.Quiet), .sc (.int .i64 a.Age)], .box 51 [.arr .u64 12 b.Match.Value, .arr .u64 12 b.Match.Care, .sc (.int .i64 b.Prio), .sl 0 [] true, .sc (.int .i64 b.Idle), .sc (.int .i64 b.Hard), .sc (.int .i64 b.Owner), .sc (.int .i64 b.Hits), .sc (.int .i64 b.Quiet), .sc (.int .i64 b.Age)]]) (by kernel_rfl) (fun z => [(5, .ptr 0 0 none), (6, .ptr 1 0 none), (34, .sc (.bool (z && (a.Hard == b.Hard))))]) ?J3 (fun hb J => ?ht3) (fun hb J => ?hf3)
    case ht3 =>
      exact DK.seg hG 6 [5, 6, 34] (by kernel_rfl) rfl J
    case hf3 =>
      exact DK.seg hG 6 [5, 6, 34] (by kernel_rfl) rfl J
    refine DK.seg hG 1 [5, 6, 35] (t' := [(5, .ptr 0 0 none), (6, .ptr 1 0 none), (35, .sc (.bool ((((act_Same a.Acts b.Acts) && (rule_Key ({ a with Acts := [] } : Rule) ({ b with Acts := [] } : Rule))) && (a.Idle == b.Idle)) && (a.Hard == b.Hard))))]) (h' := [.box 51 [.arr .u64 12 a.Match.Value, .arr .u64 12 a.Match.Care, .sc (.int .i64 a.Prio), .sl 0 [] true, .sc (.int .i64 a.Idle), .sc (.int .i64 a.Hard), .sc (.int .i64 a.Owner), .sc (.int .i64 a.Hits), .sc (.int .i64 a.Quiet), .sc (.int .i64 a.Age)], .box 51 [.arr .u64 12 b.Match.Value, .arr .u64 12 b.Match.Care, .sc (.int .i64 b.Prio), .sl 0 [] true, .sc (.int .i64 b.Idle), .sc (.int .i64 b.Hard), .sc (.int .i64 b.Owner), .sc (.int .i64 b.Hits), .sc (.int .i64 b.Quiet), .sc (.int .i64 b.Age)]]) (by kernel_rfl) rfl ?_
    refine DK.mux 35 ((((act_Same a.Acts b.Acts) && (rule_Key ({ a with Acts := [] } : Rule) ({ b with Acts := [] } : Rule))) && (a.Idle == b.Idle)) && (a.Hard == b.Hard)) (j := 31) (h' := [.box 51 [.arr .u64 12 a.Match.Value, .arr .u64 12 a.Match.Care, .sc (.int .i64 a.Prio), .sl 0 [] true, .sc (.int .i64 a.Idle), .sc (.int .i64 a.Hard), .sc (.int .i64 a.Owner), .sc (.int .i64 a.Hits), .sc (.int .i64 a.Quiet), .sc (.int .i64 a.Age)], .box 51 [.arr .u64 12 b.Match.Value, .arr .u64 12 b.Match.Care, .sc (.int .i64 b.Prio), .sl 0 [] true, .sc (.int .i64 b.Idle), .sc (.int .i64 b.Hard), .sc (.int .i64 b.Owner), .sc (.int .i64 b.Hits), .sc (.int .i64 b.Quiet), .sc (.int .i64 b.Age)]]) (by kernel_rfl) (fun z => [(5, .ptr 0 0 none), (6, .ptr 1 0 none), (41, .sc (.bool (z && (a.Owner == b.Owner))))]) ?J4 (fun hb J => ?ht4) (fun hb J => ?hf4)
    case ht4 =>
      exact DK.seg hG 6 [5, 6, 41] (by kernel_rfl) rfl J
    case hf4 =>
      exact DK.seg hG 6 [5, 6, 41] (by kernel_rfl) rfl J
    refine DK.seg hG 1 [5, 6, 42] (t' := [(5, .ptr 0 0 none), (6, .ptr 1 0 none), (42, .sc (.bool (((((act_Same a.Acts b.Acts) && (rule_Key ({ a with Acts := [] } : Rule) ({ b with Acts := [] } : Rule))) && (a.Idle == b.Idle)) && (a.Hard == b.Hard)) && (a.Owner == b.Owner))))]) (h' := [.box 51 [.arr .u64 12 a.Match.Value, .arr .u64 12 a.Match.Care, .sc (.int .i64 a.Prio), .sl 0 [] true, .sc (.int .i64 a.Idle), .sc (.int .i64 a.Hard), .sc (.int .i64 a.Owner), .sc (.int .i64 a.Hits), .sc (.int .i64 a.Quiet), .sc (.int .i64 a.Age)], .box 51 [.arr .u64 12 b.Match.Value, .arr .u64 12 b.Match.Care, .sc (.int .i64 b.Prio), .sl 0 [] true, .sc (.int .i64 b.Idle), .sc (.int .i64 b.Hard), .sc (.int .i64 b.Owner), .sc (.int .i64 b.Hits), .sc (.int .i64 b.Quiet), .sc (.int .i64 b.Age)]]) (by kernel_rfl) rfl ?_
    refine DK.mux 42 (((((act_Same a.Acts b.Acts) && (rule_Key ({ a with Acts := [] } : Rule) ({ b with Acts := [] } : Rule))) && (a.Idle == b.Idle)) && (a.Hard == b.Hard)) && (a.Owner == b.Owner)) (j := 38) (h' := [.box 51 [.arr .u64 12 a.Match.Value, .arr .u64 12 a.Match.Care, .sc (.int .i64 a.Prio), .sl 0 [] true, .sc (.int .i64 a.Idle), .sc (.int .i64 a.Hard), .sc (.int .i64 a.Owner), .sc (.int .i64 a.Hits), .sc (.int .i64 a.Quiet), .sc (.int .i64 a.Age)], .box 51 [.arr .u64 12 b.Match.Value, .arr .u64 12 b.Match.Care, .sc (.int .i64 b.Prio), .sl 0 [] true, .sc (.int .i64 b.Idle), .sc (.int .i64 b.Hard), .sc (.int .i64 b.Owner), .sc (.int .i64 b.Hits), .sc (.int .i64 b.Quiet), .sc (.int .i64 b.Age)]]) (by kernel_rfl) (fun z => [(5, .ptr 0 0 none), (6, .ptr 1 0 none), (48, .sc (.bool (z && (a.Hits == b.Hits))))]) ?J5 (fun hb J => ?ht5) (fun hb J => ?hf5)
    case ht5 =>
      exact DK.seg hG 6 [5, 6, 48] (by kernel_rfl) rfl J
    case hf5 =>
      exact DK.seg hG 6 [5, 6, 48] (by kernel_rfl) rfl J
    refine DK.seg hG 1 [5, 6, 49] (t' := [(5, .ptr 0 0 none), (6, .ptr 1 0 none), (49, .sc (.bool ((((((act_Same a.Acts b.Acts) && (rule_Key ({ a with Acts := [] } : Rule) ({ b with Acts := [] } : Rule))) && (a.Idle == b.Idle)) && (a.Hard == b.Hard)) && (a.Owner == b.Owner)) && (a.Hits == b.Hits))))]) (h' := [.box 51 [.arr .u64 12 a.Match.Value, .arr .u64 12 a.Match.Care, .sc (.int .i64 a.Prio), .sl 0 [] true, .sc (.int .i64 a.Idle), .sc (.int .i64 a.Hard), .sc (.int .i64 a.Owner), .sc (.int .i64 a.Hits), .sc (.int .i64 a.Quiet), .sc (.int .i64 a.Age)], .box 51 [.arr .u64 12 b.Match.Value, .arr .u64 12 b.Match.Care, .sc (.int .i64 b.Prio), .sl 0 [] true, .sc (.int .i64 b.Idle), .sc (.int .i64 b.Hard), .sc (.int .i64 b.Owner), .sc (.int .i64 b.Hits), .sc (.int .i64 b.Quiet), .sc (.int .i64 b.Age)]]) (by kernel_rfl) rfl ?_
    refine DK.mux 49 ((((((act_Same a.Acts b.Acts) && (rule_Key ({ a with Acts := [] } : Rule) ({ b with Acts := [] } : Rule))) && (a.Idle == b.Idle)) && (a.Hard == b.Hard)) && (a.Owner == b.Owner)) && (a.Hits == b.Hits)) (j := 45) (h' := [.box 51 [.arr .u64 12 a.Match.Value, .arr .u64 12 a.Match.Care, .sc (.int .i64 a.Prio), .sl 0 [] true, .sc (.int .i64 a.Idle), .sc (.int .i64 a.Hard), .sc (.int .i64 a.Owner), .sc (.int .i64 a.Hits), .sc (.int .i64 a.Quiet), .sc (.int .i64 a.Age)], .box 51 [.arr .u64 12 b.Match.Value, .arr .u64 12 b.Match.Care, .sc (.int .i64 b.Prio), .sl 0 [] true, .sc (.int .i64 b.Idle), .sc (.int .i64 b.Hard), .sc (.int .i64 b.Owner), .sc (.int .i64 b.Hits), .sc (.int .i64 b.Quiet), .sc (.int .i64 b.Age)]]) (by kernel_rfl) (fun z => [(5, .ptr 0 0 none), (6, .ptr 1 0 none), (55, .sc (.bool (z && (a.Quiet == b.Quiet))))]) ?J6 (fun hb J => ?ht6) (fun hb J => ?hf6)
    case ht6 =>
      exact DK.seg hG 6 [5, 6, 55] (by kernel_rfl) rfl J
    case hf6 =>
      exact DK.seg hG 6 [5, 6, 55] (by kernel_rfl) rfl J
    refine DK.seg hG 1 [5, 6, 56] (t' := [(5, .ptr 0 0 none), (6, .ptr 1 0 none), (56, .sc (.bool (((((((act_Same a.Acts b.Acts) && (rule_Key ({ a with Acts := [] } : Rule) ({ b with Acts := [] } : Rule))) && (a.Idle == b.Idle)) && (a.Hard == b.Hard)) && (a.Owner == b.Owner)) && (a.Hits == b.Hits)) && (a.Quiet == b.Quiet))))]) (h' := [.box 51 [.arr .u64 12 a.Match.Value, .arr .u64 12 a.Match.Care, .sc (.int .i64 a.Prio), .sl 0 [] true, .sc (.int .i64 a.Idle), .sc (.int .i64 a.Hard), .sc (.int .i64 a.Owner), .sc (.int .i64 a.Hits), .sc (.int .i64 a.Quiet), .sc (.int .i64 a.Age)], .box 51 [.arr .u64 12 b.Match.Value, .arr .u64 12 b.Match.Care, .sc (.int .i64 b.Prio), .sl 0 [] true, .sc (.int .i64 b.Idle), .sc (.int .i64 b.Hard), .sc (.int .i64 b.Owner), .sc (.int .i64 b.Hits), .sc (.int .i64 b.Quiet), .sc (.int .i64 b.Age)]]) (by kernel_rfl) rfl ?_
    refine DK.mux 56 (((((((act_Same a.Acts b.Acts) && (rule_Key ({ a with Acts := [] } : Rule) ({ b with Acts := [] } : Rule))) && (a.Idle == b.Idle)) && (a.Hard == b.Hard)) && (a.Owner == b.Owner)) && (a.Hits == b.Hits)) && (a.Quiet == b.Quiet)) (j := 52) (h' := [.box 51 [.arr .u64 12 a.Match.Value, .arr .u64 12 a.Match.Care, .sc (.int .i64 a.Prio), .sl 0 [] true, .sc (.int .i64 a.Idle), .sc (.int .i64 a.Hard), .sc (.int .i64 a.Owner), .sc (.int .i64 a.Hits), .sc (.int .i64 a.Quiet), .sc (.int .i64 a.Age)], .box 51 [.arr .u64 12 b.Match.Value, .arr .u64 12 b.Match.Care, .sc (.int .i64 b.Prio), .sl 0 [] true, .sc (.int .i64 b.Idle), .sc (.int .i64 b.Hard), .sc (.int .i64 b.Owner), .sc (.int .i64 b.Hits), .sc (.int .i64 b.Quiet), .sc (.int .i64 b.Age)]]) (by kernel_rfl) (fun z => [(62, .sc (.bool (z && (a.Age == b.Age))))]) ?J7 (fun hb J => ?ht7) (fun hb J => ?hf7)
    case ht7 =>
      exact DK.seg hG 6 [62] (by kernel_rfl) rfl J
    case hf7 =>
      exact DK.seg hG 6 [62] (by kernel_rfl) rfl J
    refine DK.seg hG 1 [4] (t' := [(4, .sc (.bool ((((((((act_Same a.Acts b.Acts) && (rule_Key ({ a with Acts := [] } : Rule) ({ b with Acts := [] } : Rule))) && (a.Idle == b.Idle)) && (a.Hard == b.Hard)) && (a.Owner == b.Owner)) && (a.Hits == b.Hits)) && (a.Quiet == b.Quiet)) && (a.Age == b.Age))))]) (h' := [.box 51 [.arr .u64 12 a.Match.Value, .arr .u64 12 a.Match.Care, .sc (.int .i64 a.Prio), .sl 0 [] true, .sc (.int .i64 a.Idle), .sc (.int .i64 a.Hard), .sc (.int .i64 a.Owner), .sc (.int .i64 a.Hits), .sc (.int .i64 a.Quiet), .sc (.int .i64 a.Age)], .box 51 [.arr .u64 12 b.Match.Value, .arr .u64 12 b.Match.Care, .sc (.int .i64 b.Prio), .sl 0 [] true, .sc (.int .i64 b.Idle), .sc (.int .i64 b.Hard), .sc (.int .i64 b.Owner), .sc (.int .i64 b.Hits), .sc (.int .i64 b.Quiet), .sc (.int .i64 b.Age)]]) (by kernel_rfl) rfl ?_
    refine DK.done (by kernel_rfl) (by kernel_rfl) ?_
    subst H
    exact AR.ret0 (fn := Try.f49) hG Try.func49 (by kernel_rfl) hc0 (r0 := .sc (.bool ((((((((act_Same a.Acts b.Acts) && (rule_Key ({ a with Acts := [] } : Rule) ({ b with Acts := [] } : Rule))) && (a.Idle == b.Idle)) && (a.Hard == b.Hard)) && (a.Owner == b.Owner)) && (a.Hits == b.Hits)) && (a.Quiet == b.Quiet)) && (a.Age == b.Age)))) (by kernel_rfl) (WkV.refl _)
  case xb0 =>
    refine AR.seg hG hm 3 [2, 3, 5, 6] (k' := [.code [1, 1, 1, 0], .code [1, 1, 1, 1]]) (t' := [(2, .ep [.arr .u64 12 a.Match.Value, .arr .u64 12 a.Match.Care, .sc (.int .i64 a.Prio), .sl 60 (List.map Act.av a.Acts) false, .sc (.int .i64 a.Idle), .sc (.int .i64 a.Hard), .sc (.int .i64 a.Owner), .sc (.int .i64 a.Hits), .sc (.int .i64 a.Quiet), .sc (.int .i64 a.Age)] 0 none), (3, .ep [.arr .u64 12 b.Match.Value, .arr .u64 12 b.Match.Care, .sc (.int .i64 b.Prio), .sl 60 (List.map Act.av b.Acts) false, .sc (.int .i64 b.Idle), .sc (.int .i64 b.Hard), .sc (.int .i64 b.Owner), .sc (.int .i64 b.Hits), .sc (.int .i64 b.Quiet), .sc (.int .i64 b.Age)] 0 none), (5, .ptr 1 0 none), (6, .ptr 0 0 none)]) (h' := [.box 51 [.arr .u64 12 b.Match.Value, .arr .u64 12 b.Match.Care, .sc (.int .i64 b.Prio), .sl 0 [] true, .sc (.int .i64 b.Idle), .sc (.int .i64 b.Hard), .sc (.int .i64 b.Owner), .sc (.int .i64 b.Hits), .sc (.int .i64 b.Quiet), .sc (.int .i64 b.Age)], .box 51 [.arr .u64 12 a.Match.Value, .arr .u64 12 a.Match.Care, .sc (.int .i64 a.Prio), .sl 0 [] true, .sc (.int .i64 a.Idle), .sc (.int .i64 a.Hard), .sc (.int .i64 a.Owner), .sc (.int .i64 a.Hits), .sc (.int .i64 a.Quiet), .sc (.int .i64 a.Age)]]) (by kernel_rfl) ?_
    refine AR.reg hm rule_Equal_k2 (by kernel_rfl) ?_
    refine DK.seg hG 4 [5, 6, 12, 14] (t' := [(5, .ptr 1 0 none), (6, .ptr 0 0 none), (12, .sl 60 (List.map Act.av a.Acts) false), (14, .sl 60 (List.map Act.av b.Acts) false)]) (h' := [.box 51 [.arr .u64 12 b.Match.Value, .arr .u64 12 b.Match.Care, .sc (.int .i64 b.Prio), .sl 0 [] true, .sc (.int .i64 b.Idle), .sc (.int .i64 b.Hard), .sc (.int .i64 b.Owner), .sc (.int .i64 b.Hits), .sc (.int .i64 b.Quiet), .sc (.int .i64 b.Age)], .box 51 [.arr .u64 12 a.Match.Value, .arr .u64 12 a.Match.Care, .sc (.int .i64 a.Prio), .sl 0 [] true, .sc (.int .i64 a.Idle), .sc (.int .i64 a.Hard), .sc (.int .i64 a.Owner), .sc (.int .i64 a.Hits), .sc (.int .i64 a.Quiet), .sc (.int .i64 a.Age)]]) (by kernel_rfl) rfl ?_
    refine DK.op' [5, 6, 15] (t' := [(5, .ptr 1 0 none), (6, .ptr 0 0 none), (15, .sc (.bool (act_Same a.Acts b.Acts)))]) (h' := [.box 51 [.arr .u64 12 b.Match.Value, .arr .u64 12 b.Match.Care, .sc (.int .i64 b.Prio), .sl 0 [] true, .sc (.int .i64 b.Idle), .sc (.int .i64 b.Hard), .sc (.int .i64 b.Owner), .sc (.int .i64 b.Hits), .sc (.int .i64 b.Quiet), .sc (.int .i64 b.Age)], .box 51 [.arr .u64 12 a.Match.Value, .arr .u64 12 a.Match.Care, .sc (.int .i64 a.Prio), .sl 0 [] true, .sc (.int .i64 a.Idle), .sc (.int .i64 a.Hard), .sc (.int .i64 a.Owner), .sc (.int .i64 a.Hits), .sc (.int .i64 a.Quiet), .sc (.int .i64 a.Age)]]) (LSpec.callP' (act_Same_calls a.Acts b.Acts false false) (by kernel_rfl)) (by kernel_rfl) rfl (by kernel_rfl) rfl ?_
    refine DK.seg hG 1 [5, 6, 16] (t' := [(5, .ptr 1 0 none), (6, .ptr 0 0 none), (16, .sc (.bool (act_Same a.Acts b.Acts)))]) (h' := [.box 51 [.arr .u64 12 b.Match.Value, .arr .u64 12 b.Match.Care, .sc (.int .i64 b.Prio), .sl 0 [] true, .sc (.int .i64 b.Idle), .sc (.int .i64 b.Hard), .sc (.int .i64 b.Owner), .sc (.int .i64 b.Hits), .sc (.int .i64 b.Quiet), .sc (.int .i64 b.Age)], .box 51 [.arr .u64 12 a.Match.Value, .arr .u64 12 a.Match.Care, .sc (.int .i64 a.Prio), .sl 0 [] true, .sc (.int .i64 a.Idle), .sc (.int .i64 a.Hard), .sc (.int .i64 a.Owner), .sc (.int .i64 a.Hits), .sc (.int .i64 a.Quiet), .sc (.int .i64 a.Age)]]) (by kernel_rfl) rfl ?_
    refine DK.mux 16 (act_Same a.Acts b.Acts) (j := 10) (h' := [.box 51 [.arr .u64 12 b.Match.Value, .arr .u64 12 b.Match.Care, .sc (.int .i64 b.Prio), .sl 0 [] true, .sc (.int .i64 b.Idle), .sc (.int .i64 b.Hard), .sc (.int .i64 b.Owner), .sc (.int .i64 b.Hits), .sc (.int .i64 b.Quiet), .sc (.int .i64 b.Age)], .box 51 [.arr .u64 12 a.Match.Value, .arr .u64 12 a.Match.Care, .sc (.int .i64 a.Prio), .sl 0 [] true, .sc (.int .i64 a.Idle), .sc (.int .i64 a.Hard), .sc (.int .i64 a.Owner), .sc (.int .i64 a.Hits), .sc (.int .i64 a.Quiet), .sc (.int .i64 a.Age)]]) (by kernel_rfl) (fun z => [(5, .ptr 1 0 none), (6, .ptr 0 0 none), (20, .sc (.bool (z && (rule_Key ({ a with Acts := [] } : Rule) ({ b with Acts := [] } : Rule)))))]) ?J8 (fun hb J => ?ht8) (fun hb J => ?hf8)
    case ht8 =>
      refine DK.seg hG 2 [5, 6, 16, 17, 18] (t' := [(5, .ptr 1 0 none), (6, .ptr 0 0 none), (16, .sc (.bool true)), (17, .agg [.arr .u64 12 a.Match.Value, .arr .u64 12 a.Match.Care, .sc (.int .i64 a.Prio), .sl 0 [] true, .sc (.int .i64 a.Idle), .sc (.int .i64 a.Hard), .sc (.int .i64 a.Owner), .sc (.int .i64 a.Hits), .sc (.int .i64 a.Quiet), .sc (.int .i64 a.Age)]), (18, .agg [.arr .u64 12 b.Match.Value, .arr .u64 12 b.Match.Care, .sc (.int .i64 b.Prio), .sl 0 [] true, .sc (.int .i64 b.Idle), .sc (.int .i64 b.Hard), .sc (.int .i64 b.Owner), .sc (.int .i64 b.Hits), .sc (.int .i64 b.Quiet), .sc (.int .i64 b.Age)])]) (h' := [.box 51 [.arr .u64 12 b.Match.Value, .arr .u64 12 b.Match.Care, .sc (.int .i64 b.Prio), .sl 0 [] true, .sc (.int .i64 b.Idle), .sc (.int .i64 b.Hard), .sc (.int .i64 b.Owner), .sc (.int .i64 b.Hits), .sc (.int .i64 b.Quiet), .sc (.int .i64 b.Age)], .box 51 [.arr .u64 12 a.Match.Value, .arr .u64 12 a.Match.Care, .sc (.int .i64 a.Prio), .sl 0 [] true, .sc (.int .i64 a.Idle), .sc (.int .i64 a.Hard), .sc (.int .i64 a.Owner), .sc (.int .i64 a.Hits), .sc (.int .i64 a.Quiet), .sc (.int .i64 a.Age)]]) (by kernel_rfl) rfl ?_
      refine DK.op' [5, 6, 16, 19] (t' := [(5, .ptr 1 0 none), (6, .ptr 0 0 none), (16, .sc (.bool true)), (19, .sc (.bool (rule_Key ({ a with Acts := [] } : Rule) ({ b with Acts := [] } : Rule))))]) (h' := [.box 51 [.arr .u64 12 b.Match.Value, .arr .u64 12 b.Match.Care, .sc (.int .i64 b.Prio), .sl 0 [] true, .sc (.int .i64 b.Idle), .sc (.int .i64 b.Hard), .sc (.int .i64 b.Owner), .sc (.int .i64 b.Hits), .sc (.int .i64 b.Quiet), .sc (.int .i64 b.Age)], .box 51 [.arr .u64 12 a.Match.Value, .arr .u64 12 a.Match.Care, .sc (.int .i64 a.Prio), .sl 0 [] true, .sc (.int .i64 a.Idle), .sc (.int .i64 a.Hard), .sc (.int .i64 a.Owner), .sc (.int .i64 a.Hits), .sc (.int .i64 a.Quiet), .sc (.int .i64 a.Age)]]) (LSpec.callP' (ACalls.wk (aas := [.agg [.arr .u64 12 a.Match.Value, .arr .u64 12 a.Match.Care, .sc (.int .i64 a.Prio), .sl 0 [] true, .sc (.int .i64 a.Idle), .sc (.int .i64 a.Hard), .sc (.int .i64 a.Owner), .sc (.int .i64 a.Hits), .sc (.int .i64 a.Quiet), .sc (.int .i64 a.Age)], .agg [.arr .u64 12 b.Match.Value, .arr .u64 12 b.Match.Care, .sc (.int .i64 b.Prio), .sl 0 [] true, .sc (.int .i64 b.Idle), .sc (.int .i64 b.Hard), .sc (.int .i64 b.Owner), .sc (.int .i64 b.Hits), .sc (.int .i64 b.Quiet), .sc (.int .i64 b.Age)]]) (Wks.cons (WkV.agg (WkL.cons (Wk1.refl _) (WkL.cons (Wk1.refl _) (WkL.cons (Wk1.refl _) (WkL.cons (Wk1.nil 60 false) (WkL.cons (Wk1.refl _) (WkL.cons (Wk1.refl _) (WkL.cons (Wk1.refl _) (WkL.cons (Wk1.refl _) (WkL.cons (Wk1.refl _) (WkL.cons (Wk1.refl _) WkL.nil))))))))))) trivial trivial (Wks.cons (WkV.agg (WkL.cons (Wk1.refl _) (WkL.cons (Wk1.refl _) (WkL.cons (Wk1.refl _) (WkL.cons (Wk1.nil 60 false) (WkL.cons (Wk1.refl _) (WkL.cons (Wk1.refl _) (WkL.cons (Wk1.refl _) (WkL.cons (Wk1.refl _) (WkL.cons (Wk1.refl _) (WkL.cons (Wk1.refl _) WkL.nil))))))))))) trivial trivial Wks.nil)) (rule_Key_calls ({ a with Acts := [] } : Rule) ({ b with Acts := [] } : Rule))) (by kernel_rfl)) (by kernel_rfl) rfl (by kernel_rfl) rfl ?_
      exact DK.seg hG 1 [5, 6, 20] (by kernel_rfl) rfl J
    case hf8 =>
      exact DK.seg hG 4 [5, 6, 20] (by kernel_rfl) rfl J
    refine DK.seg hG 1 [5, 6, 21] (t' := [(5, .ptr 1 0 none), (6, .ptr 0 0 none), (21, .sc (.bool ((act_Same a.Acts b.Acts) && (rule_Key ({ a with Acts := [] } : Rule) ({ b with Acts := [] } : Rule)))))]) (h' := [.box 51 [.arr .u64 12 b.Match.Value, .arr .u64 12 b.Match.Care, .sc (.int .i64 b.Prio), .sl 0 [] true, .sc (.int .i64 b.Idle), .sc (.int .i64 b.Hard), .sc (.int .i64 b.Owner), .sc (.int .i64 b.Hits), .sc (.int .i64 b.Quiet), .sc (.int .i64 b.Age)], .box 51 [.arr .u64 12 a.Match.Value, .arr .u64 12 a.Match.Care, .sc (.int .i64 a.Prio), .sl 0 [] true, .sc (.int .i64 a.Idle), .sc (.int .i64 a.Hard), .sc (.int .i64 a.Owner), .sc (.int .i64 a.Hits), .sc (.int .i64 a.Quiet), .sc (.int .i64 a.Age)]]) (by kernel_rfl) rfl ?_
    refine DK.mux 21 ((act_Same a.Acts b.Acts) && (rule_Key ({ a with Acts := [] } : Rule) ({ b with Acts := [] } : Rule))) (j := 17) (h' := [.box 51 [.arr .u64 12 b.Match.Value, .arr .u64 12 b.Match.Care, .sc (.int .i64 b.Prio), .sl 0 [] true, .sc (.int .i64 b.Idle), .sc (.int .i64 b.Hard), .sc (.int .i64 b.Owner), .sc (.int .i64 b.Hits), .sc (.int .i64 b.Quiet), .sc (.int .i64 b.Age)], .box 51 [.arr .u64 12 a.Match.Value, .arr .u64 12 a.Match.Care, .sc (.int .i64 a.Prio), .sl 0 [] true, .sc (.int .i64 a.Idle), .sc (.int .i64 a.Hard), .sc (.int .i64 a.Owner), .sc (.int .i64 a.Hits), .sc (.int .i64 a.Quiet), .sc (.int .i64 a.Age)]]) (by kernel_rfl) (fun z => [(5, .ptr 1 0 none), (6, .ptr 0 0 none), (27, .sc (.bool (z && (a.Idle == b.Idle))))]) ?J9 (fun hb J => ?ht9) (fun hb J => ?hf9)
    case ht9 =>
      exact DK.seg hG 6 [5, 6, 27] (by kernel_rfl) rfl J
    case hf9 =>
      exact DK.seg hG 6 [5, 6, 27] (by kernel_rfl) rfl J
    refine DK.seg hG 1 [5, 6, 28] (t' := [(5, .ptr 1 0 none), (6, .ptr 0 0 none), (28, .sc (.bool (((act_Same a.Acts b.Acts) && (rule_Key ({ a with Acts := [] } : Rule) ({ b with Acts := [] } : Rule))) && (a.Idle == b.Idle))))]) (h' := [.box 51 [.arr .u64 12 b.Match.Value, .arr .u64 12 b.Match.Care, .sc (.int .i64 b.Prio), .sl 0 [] true, .sc (.int .i64 b.Idle), .sc (.int .i64 b.Hard), .sc (.int .i64 b.Owner), .sc (.int .i64 b.Hits), .sc (.int .i64 b.Quiet), .sc (.int .i64 b.Age)], .box 51 [.arr .u64 12 a.Match.Value, .arr .u64 12 a.Match.Care, .sc (.int .i64 a.Prio), .sl 0 [] true, .sc (.int .i64 a.Idle), .sc (.int .i64 a.Hard), .sc (.int .i64 a.Owner), .sc (.int .i64 a.Hits), .sc (.int .i64 a.Quiet), .sc (.int .i64 a.Age)]]) (by kernel_rfl) rfl ?_
    refine DK.mux 28 (((act_Same a.Acts b.Acts) && (rule_Key ({ a with Acts := [] } : Rule) ({ b with Acts := [] } : Rule))) && (a.Idle == b.Idle)) (j := 24) (h' := [.box 51 [.arr .u64 12 b.Match.Value, .arr .u64 12 b.Match.Care, .sc (.int .i64 b.Prio), .sl 0 [] true, .sc (.int .i64 b.Idle), .sc (.int .i64 b.Hard), .sc (.int .i64 b.Owner), .sc (.int .i64 b.Hits), .sc (.int .i64 b.Quiet), .sc (.int .i64 b.Age)], .box 51 [.arr .u64 12 a.Match.Value, .arr .u64 12 a.Match.Care, .sc (.int .i64 a.Prio), .sl 0 [] true, .sc (.int .i64 a.Idle), .sc (.int .i64 a.Hard), .sc (.int .i64 a.Owner), .sc (.int .i64 a.Hits), .sc (.int .i64 a.Quiet), .sc (.int .i64 a.Age)]]) (by kernel_rfl) (fun z => [(5, .ptr 1 0 none), (6, .ptr 0 0 none), (34, .sc (.bool (z && (a.Hard == b.Hard))))]) ?J10 (fun hb J => ?ht10) (fun hb J => ?hf10)
    case ht10 =>
      exact DK.seg hG 6 [5, 6, 34] (by kernel_rfl) rfl J
    case hf10 =>
      exact DK.seg hG 6 [5, 6, 34] (by kernel_rfl) rfl J
    refine DK.seg hG 1 [5, 6, 35] (t' := [(5, .ptr 1 0 none), (6, .ptr 0 0 none), (35, .sc (.bool ((((act_Same a.Acts b.Acts) && (rule_Key ({ a with Acts := [] } : Rule) ({ b with Acts := [] } : Rule))) && (a.Idle == b.Idle)) && (a.Hard == b.Hard))))]) (h' := [.box 51 [.arr .u64 12 b.Match.Value, .arr .u64 12 b.Match.Care, .sc (.int .i64 b.Prio), .sl 0 [] true, .sc (.int .i64 b.Idle), .sc (.int .i64 b.Hard), .sc (.int .i64 b.Owner), .sc (.int .i64 b.Hits), .sc (.int .i64 b.Quiet), .sc (.int .i64 b.Age)], .box 51 [.arr .u64 12 a.Match.Value, .arr .u64 12 a.Match.Care, .sc (.int .i64 a.Prio), .sl 0 [] true, .sc (.int .i64 a.Idle), .sc (.int .i64 a.Hard), .sc (.int .i64 a.Owner), .sc (.int .i64 a.Hits), .sc (.int .i64 a.Quiet), .sc (.int .i64 a.Age)]]) (by kernel_rfl) rfl ?_
    refine DK.mux 35 ((((act_Same a.Acts b.Acts) && (rule_Key ({ a with Acts := [] } : Rule) ({ b with Acts := [] } : Rule))) && (a.Idle == b.Idle)) && (a.Hard == b.Hard)) (j := 31) (h' := [.box 51 [.arr .u64 12 b.Match.Value, .arr .u64 12 b.Match.Care, .sc (.int .i64 b.Prio), .sl 0 [] true, .sc (.int .i64 b.Idle), .sc (.int .i64 b.Hard), .sc (.int .i64 b.Owner), .sc (.int .i64 b.Hits), .sc (.int .i64 b.Quiet), .sc (.int .i64 b.Age)], .box 51 [.arr .u64 12 a.Match.Value, .arr .u64 12 a.Match.Care, .sc (.int .i64 a.Prio), .sl 0 [] true, .sc (.int .i64 a.Idle), .sc (.int .i64 a.Hard), .sc (.int .i64 a.Owner), .sc (.int .i64 a.Hits), .sc (.int .i64 a.Quiet), .sc (.int .i64 a.Age)]]) (by kernel_rfl) (fun z => [(5, .ptr 1 0 none), (6, .ptr 0 0 none), (41, .sc (.bool (z && (a.Owner == b.Owner))))]) ?J11 (fun hb J => ?ht11) (fun hb J => ?hf11)
    case ht11 =>
      exact DK.seg hG 6 [5, 6, 41] (by kernel_rfl) rfl J
    case hf11 =>
      exact DK.seg hG 6 [5, 6, 41] (by kernel_rfl) rfl J
    refine DK.seg hG 1 [5, 6, 42] (t' := [(5, .ptr 1 0 none), (6, .ptr 0 0 none), (42, .sc (.bool (((((act_Same a.Acts b.Acts) && (rule_Key ({ a with Acts := [] } : Rule) ({ b with Acts := [] } : Rule))) && (a.Idle == b.Idle)) && (a.Hard == b.Hard)) && (a.Owner == b.Owner))))]) (h' := [.box 51 [.arr .u64 12 b.Match.Value, .arr .u64 12 b.Match.Care, .sc (.int .i64 b.Prio), .sl 0 [] true, .sc (.int .i64 b.Idle), .sc (.int .i64 b.Hard), .sc (.int .i64 b.Owner), .sc (.int .i64 b.Hits), .sc (.int .i64 b.Quiet), .sc (.int .i64 b.Age)], .box 51 [.arr .u64 12 a.Match.Value, .arr .u64 12 a.Match.Care, .sc (.int .i64 a.Prio), .sl 0 [] true, .sc (.int .i64 a.Idle), .sc (.int .i64 a.Hard), .sc (.int .i64 a.Owner), .sc (.int .i64 a.Hits), .sc (.int .i64 a.Quiet), .sc (.int .i64 a.Age)]]) (by kernel_rfl) rfl ?_
    refine DK.mux 42 (((((act_Same a.Acts b.Acts) && (rule_Key ({ a with Acts := [] } : Rule) ({ b with Acts := [] } : Rule))) && (a.Idle == b.Idle)) && (a.Hard == b.Hard)) && (a.Owner == b.Owner)) (j := 38) (h' := [.box 51 [.arr .u64 12 b.Match.Value, .arr .u64 12 b.Match.Care, .sc (.int .i64 b.Prio), .sl 0 [] true, .sc (.int .i64 b.Idle), .sc (.int .i64 b.Hard), .sc (.int .i64 b.Owner), .sc (.int .i64 b.Hits), .sc (.int .i64 b.Quiet), .sc (.int .i64 b.Age)], .box 51 [.arr .u64 12 a.Match.Value, .arr .u64 12 a.Match.Care, .sc (.int .i64 a.Prio), .sl 0 [] true, .sc (.int .i64 a.Idle), .sc (.int .i64 a.Hard), .sc (.int .i64 a.Owner), .sc (.int .i64 a.Hits), .sc (.int .i64 a.Quiet), .sc (.int .i64 a.Age)]]) (by kernel_rfl) (fun z => [(5, .ptr 1 0 none), (6, .ptr 0 0 none), (48, .sc (.bool (z && (a.Hits == b.Hits))))]) ?J12 (fun hb J => ?ht12) (fun hb J => ?hf12)
    case ht12 =>
      exact DK.seg hG 6 [5, 6, 48] (by kernel_rfl) rfl J
    case hf12 =>
      exact DK.seg hG 6 [5, 6, 48] (by kernel_rfl) rfl J
    refine DK.seg hG 1 [5, 6, 49] (t' := [(5, .ptr 1 0 none), (6, .ptr 0 0 none), (49, .sc (.bool ((((((act_Same a.Acts b.Acts) && (rule_Key ({ a with Acts := [] } : Rule) ({ b with Acts := [] } : Rule))) && (a.Idle == b.Idle)) && (a.Hard == b.Hard)) && (a.Owner == b.Owner)) && (a.Hits == b.Hits))))]) (h' := [.box 51 [.arr .u64 12 b.Match.Value, .arr .u64 12 b.Match.Care, .sc (.int .i64 b.Prio), .sl 0 [] true, .sc (.int .i64 b.Idle), .sc (.int .i64 b.Hard), .sc (.int .i64 b.Owner), .sc (.int .i64 b.Hits), .sc (.int .i64 b.Quiet), .sc (.int .i64 b.Age)], .box 51 [.arr .u64 12 a.Match.Value, .arr .u64 12 a.Match.Care, .sc (.int .i64 a.Prio), .sl 0 [] true, .sc (.int .i64 a.Idle), .sc (.int .i64 a.Hard), .sc (.int .i64 a.Owner), .sc (.int .i64 a.Hits), .sc (.int .i64 a.Quiet), .sc (.int .i64 a.Age)]]) (by kernel_rfl) rfl ?_
    refine DK.mux 49 ((((((act_Same a.Acts b.Acts) && (rule_Key ({ a with Acts := [] } : Rule) ({ b with Acts := [] } : Rule))) && (a.Idle == b.Idle)) && (a.Hard == b.Hard)) && (a.Owner == b.Owner)) && (a.Hits == b.Hits)) (j := 45) (h' := [.box 51 [.arr .u64 12 b.Match.Value, .arr .u64 12 b.Match.Care, .sc (.int .i64 b.Prio), .sl 0 [] true, .sc (.int .i64 b.Idle), .sc (.int .i64 b.Hard), .sc (.int .i64 b.Owner), .sc (.int .i64 b.Hits), .sc (.int .i64 b.Quiet), .sc (.int .i64 b.Age)], .box 51 [.arr .u64 12 a.Match.Value, .arr .u64 12 a.Match.Care, .sc (.int .i64 a.Prio), .sl 0 [] true, .sc (.int .i64 a.Idle), .sc (.int .i64 a.Hard), .sc (.int .i64 a.Owner), .sc (.int .i64 a.Hits), .sc (.int .i64 a.Quiet), .sc (.int .i64 a.Age)]]) (by kernel_rfl) (fun z => [(5, .ptr 1 0 none), (6, .ptr 0 0 none), (55, .sc (.bool (z && (a.Quiet == b.Quiet))))]) ?J13 (fun hb J => ?ht13) (fun hb J => ?hf13)
    case ht13 =>
      exact DK.seg hG 6 [5, 6, 55] (by kernel_rfl) rfl J
    case hf13 =>
      exact DK.seg hG 6 [5, 6, 55] (by kernel_rfl) rfl J
    refine DK.seg hG 1 [5, 6, 56] (t' := [(5, .ptr 1 0 none), (6, .ptr 0 0 none), (56, .sc (.bool (((((((act_Same a.Acts b.Acts) && (rule_Key ({ a with Acts := [] } : Rule) ({ b with Acts := [] } : Rule))) && (a.Idle == b.Idle)) && (a.Hard == b.Hard)) && (a.Owner == b.Owner)) && (a.Hits == b.Hits)) && (a.Quiet == b.Quiet))))]) (h' := [.box 51 [.arr .u64 12 b.Match.Value, .arr .u64 12 b.Match.Care, .sc (.int .i64 b.Prio), .sl 0 [] true, .sc (.int .i64 b.Idle), .sc (.int .i64 b.Hard), .sc (.int .i64 b.Owner), .sc (.int .i64 b.Hits), .sc (.int .i64 b.Quiet), .sc (.int .i64 b.Age)], .box 51 [.arr .u64 12 a.Match.Value, .arr .u64 12 a.Match.Care, .sc (.int .i64 a.Prio), .sl 0 [] true, .sc (.int .i64 a.Idle), .sc (.int .i64 a.Hard), .sc (.int .i64 a.Owner), .sc (.int .i64 a.Hits), .sc (.int .i64 a.Quiet), .sc (.int .i64 a.Age)]]) (by kernel_rfl) rfl ?_
    refine DK.mux 56 (((((((act_Same a.Acts b.Acts) && (rule_Key ({ a with Acts := [] } : Rule) ({ b with Acts := [] } : Rule))) && (a.Idle == b.Idle)) && (a.Hard == b.Hard)) && (a.Owner == b.Owner)) && (a.Hits == b.Hits)) && (a.Quiet == b.Quiet)) (j := 52) (h' := [.box 51 [.arr .u64 12 b.Match.Value, .arr .u64 12 b.Match.Care, .sc (.int .i64 b.Prio), .sl 0 [] true, .sc (.int .i64 b.Idle), .sc (.int .i64 b.Hard), .sc (.int .i64 b.Owner), .sc (.int .i64 b.Hits), .sc (.int .i64 b.Quiet), .sc (.int .i64 b.Age)], .box 51 [.arr .u64 12 a.Match.Value, .arr .u64 12 a.Match.Care, .sc (.int .i64 a.Prio), .sl 0 [] true, .sc (.int .i64 a.Idle), .sc (.int .i64 a.Hard), .sc (.int .i64 a.Owner), .sc (.int .i64 a.Hits), .sc (.int .i64 a.Quiet), .sc (.int .i64 a.Age)]]) (by kernel_rfl) (fun z => [(62, .sc (.bool (z && (a.Age == b.Age))))]) ?J14 (fun hb J => ?ht14) (fun hb J => ?hf14)
    case ht14 =>
      exact DK.seg hG 6 [62] (by kernel_rfl) rfl J
    case hf14 =>
      exact DK.seg hG 6 [62] (by kernel_rfl) rfl J
    refine DK.seg hG 1 [4] (t' := [(4, .sc (.bool ((((((((act_Same a.Acts b.Acts) && (rule_Key ({ a with Acts := [] } : Rule) ({ b with Acts := [] } : Rule))) && (a.Idle == b.Idle)) && (a.Hard == b.Hard)) && (a.Owner == b.Owner)) && (a.Hits == b.Hits)) && (a.Quiet == b.Quiet)) && (a.Age == b.Age))))]) (h' := [.box 51 [.arr .u64 12 b.Match.Value, .arr .u64 12 b.Match.Care, .sc (.int .i64 b.Prio), .sl 0 [] true, .sc (.int .i64 b.Idle), .sc (.int .i64 b.Hard), .sc (.int .i64 b.Owner), .sc (.int .i64 b.Hits), .sc (.int .i64 b.Quiet), .sc (.int .i64 b.Age)], .box 51 [.arr .u64 12 a.Match.Value, .arr .u64 12 a.Match.Care, .sc (.int .i64 a.Prio), .sl 0 [] true, .sc (.int .i64 a.Idle), .sc (.int .i64 a.Hard), .sc (.int .i64 a.Owner), .sc (.int .i64 a.Hits), .sc (.int .i64 a.Quiet), .sc (.int .i64 a.Age)]]) (by kernel_rfl) rfl ?_
    refine DK.done (by kernel_rfl) (by kernel_rfl) ?_
    subst H
    exact AR.ret0 (fn := Try.f49) hG Try.func49 (by kernel_rfl) hc0 (r0 := .sc (.bool ((((((((act_Same a.Acts b.Acts) && (rule_Key ({ a with Acts := [] } : Rule) ({ b with Acts := [] } : Rule))) && (a.Idle == b.Idle)) && (a.Hard == b.Hard)) && (a.Owner == b.Owner)) && (a.Hits == b.Hits)) && (a.Quiet == b.Quiet)) && (a.Age == b.Age)))) (by kernel_rfl) (WkV.refl _)
theorem rule_Equal_calls (a : Rule) (b : Rule) : ACalls Try.prog tab.S 49 [Rule.av a, Rule.av b] [] (.sc (.bool (rule_Equal a b))) [] := rule_Equal_walk a b _ rfl

theorem rule_Equal_eq (a b : Rule) : rule_Equal a b = (a == b) := by
  obtain ⟨⟨v, c⟩, p, ac, i1, h1, o1, h2, q1, g1⟩ := a
  obtain ⟨⟨v', c'⟩, p', ac', i1', h1', o1', h2', q1', g1'⟩ := b
  rw [rule_Equal, act_Same, rule_Key, Bool.eq_iff_iff]
  simp only [Bool.and_eq_true, beq_iff_eq, Rule.mk.injEq, Cube.mk.injEq]
  constructor
  · rintro ⟨⟨⟨⟨⟨⟨⟨a1, ⟨a2, a3⟩, a4⟩, a5⟩, a6⟩, a7⟩, a8⟩, a9⟩, a10⟩
    exact ⟨⟨a2, a3⟩, a4, a1, a5, a6, a7, a8, a9, a10⟩
  · rintro ⟨⟨a2, a3⟩, a4, a1, a5, a6, a7, a8, a9, a10⟩
    exact ⟨⟨⟨⟨⟨⟨⟨a1, ⟨a2, a3⟩, a4⟩, a5⟩, a6⟩, a7⟩, a8⟩, a9⟩, a10⟩

/-! ### podestaref04.Key: function 20 -/
noncomputable def podestaref04_Key_F : Go.Sh.Fn := ⟨20, bodyOf Try.f20, 17⟩
def podestaref04_Key_k0 : List Kd := [.pure, .read, .pure, .read, .pure, .pure, .pure, .read, .pure, .read, .pure, .pure, .pure]
def podestaref04_Key (a : Rule) (b : Rule) : Bool :=
  (((a.Match.Value == b.Match.Value) && (a.Match.Care == b.Match.Care)) && (a.Prio == b.Prio))
theorem podestaref04_Key_walk (a : Rule) (b : Rule) (r : Bool) (H : podestaref04_Key a b = r) :
    ACalls Try.prog tab.S 20 [Rule.av a, Rule.av b] [] (.sc (.bool r)) [] := by
  have hG := tab_ok
  have hm := mixed
  refine ACalls.of_AR (G := tab) podestaref04_Key_F (fn := Try.f20) Try.func20 (by kernel_rfl) (by kernel_rfl) (by kernel_rfl) (Nat.le_of_ble_eq_true (by kernel_rfl)) ?_
  intro c0 hc0
  replace hc0 : c0.m.length = 0 := hc0
  rw [podestaref04_Key] at H
  refine AR.seg hG hm 3 [2, 3] (k' := [.code [1, 0], .code [1, 1]]) (t' := [(2, .ptr 0 0 none), (3, .ptr 1 0 none)]) (h' := [.box 51 (Rule.ch a), .box 51 (Rule.ch b)]) (by kernel_rfl) ?_
  refine AR.reg hm podestaref04_Key_k0 (by kernel_rfl) ?_
  refine DK.seg hG 4 [2, 3, 6, 8] (t' := [(2, .ptr 0 0 none), (3, .ptr 1 0 none), (6, Cube.av a.Match), (8, Cube.av b.Match)]) (h' := [.box 51 (Rule.ch a), .box 51 (Rule.ch b)]) (by kernel_rfl) rfl ?_
  refine DK.op' [2, 3, 9] (t' := [(2, .ptr 0 0 none), (3, .ptr 1 0 none), (9, .sc (.bool ((a.Match.Value == b.Match.Value) && (a.Match.Care == b.Match.Care))))]) (h' := [.box 51 (Rule.ch a), .box 51 (Rule.ch b)]) (LSpec.eq' 9 (r := ((a.Match.Value == b.Match.Value) && (a.Match.Care == b.Match.Care))) (by kernel_rfl)) (by kernel_rfl) rfl (by kernel_rfl) rfl ?_
  refine DK.seg hG 1 [2, 3, 10] (t' := [(2, .ptr 0 0 none), (3, .ptr 1 0 none), (10, .sc (.bool ((a.Match.Value == b.Match.Value) && (a.Match.Care == b.Match.Care))))]) (h' := [.box 51 (Rule.ch a), .box 51 (Rule.ch b)]) (by kernel_rfl) rfl ?_
  refine DK.mux 10 ((a.Match.Value == b.Match.Value) && (a.Match.Care == b.Match.Care)) (j := 12) (h' := [.box 51 (Rule.ch a), .box 51 (Rule.ch b)]) (by kernel_rfl) (fun z => [(16, .sc (.bool (z && (a.Prio == b.Prio))))]) ?J1 (fun hb J => ?ht1) (fun hb J => ?hf1)
  case ht1 =>
    exact DK.seg hG 6 [16] (by kernel_rfl) rfl J
  case hf1 =>
    exact DK.seg hG 6 [16] (by kernel_rfl) rfl J
  refine DK.seg hG 1 [4] (t' := [(4, .sc (.bool (((a.Match.Value == b.Match.Value) && (a.Match.Care == b.Match.Care)) && (a.Prio == b.Prio))))]) (h' := [.box 51 (Rule.ch a), .box 51 (Rule.ch b)]) (by kernel_rfl) rfl ?_
  refine DK.done (by kernel_rfl) (by kernel_rfl) ?_
  subst H
  exact AR.ret0 (fn := Try.f20) hG Try.func20 (by kernel_rfl) hc0 (r0 := .sc (.bool (((a.Match.Value == b.Match.Value) && (a.Match.Care == b.Match.Care)) && (a.Prio == b.Prio)))) (by kernel_rfl) (WkV.refl _)
theorem podestaref04_Key_calls (a : Rule) (b : Rule) : ACalls Try.prog tab.S 20 [Rule.av a, Rule.av b] [] (.sc (.bool (podestaref04_Key a b))) [] := podestaref04_Key_walk a b _ rfl

/-! ### podestaref04.Equal: function 24 -/
noncomputable def podestaref04_Equal_F : Go.Sh.Fn := ⟨24, bodyOf Try.f24, 57⟩
def podestaref04_Equal_k0 : List Kd := [.read, .read, .pure, .pure, .pure, .read, .pure, .read, .pure, .pure, .pure, .pure, .read, .pure, .read, .pure, .pure, .pure, .pure, .read, .pure, .read, .pure, .pure, .pure, .pure, .read, .pure, .read, .pure, .pure, .pure, .pure, .read, .pure, .read, .pure, .pure, .pure, .pure, .read, .pure, .read, .pure, .pure, .pure, .pure, .read, .pure, .read, .pure, .pure, .pure]
def podestaref04_Equal (a : Rule) (b : Rule) : Bool :=
  ((((((((podestaref04_Key a b) && (a.Acts == b.Acts)) && (a.Idle == b.Idle)) && (a.Hard == b.Hard)) && (a.Owner == b.Owner)) && (a.Hits == b.Hits)) && (a.Quiet == b.Quiet)) && (a.Age == b.Age))
theorem podestaref04_Equal_walk (a : Rule) (b : Rule) (r : Bool) (H : podestaref04_Equal a b = r) :
    ACalls Try.prog tab.S 24 [Rule.av a, Rule.av b] [] (.sc (.bool r)) [] := by
  have hG := tab_ok
  have hm := mixed
  refine ACalls.of_AR (G := tab) podestaref04_Equal_F (fn := Try.f24) Try.func24 (by kernel_rfl) (by kernel_rfl) (by kernel_rfl) (Nat.le_of_ble_eq_true (by kernel_rfl)) ?_
  intro c0 hc0
  replace hc0 : c0.m.length = 0 := hc0
  rw [podestaref04_Equal] at H
  refine AR.seg hG hm 3 [2, 3] (k' := [.code [1, 0], .code [1, 1]]) (t' := [(2, .ptr 0 0 none), (3, .ptr 1 0 none)]) (h' := [.box 51 (Rule.ch a), .box 51 (Rule.ch b)]) (by kernel_rfl) ?_
  refine AR.reg hm podestaref04_Equal_k0 (by kernel_rfl) ?_
  refine DK.seg hG 2 [2, 3, 5, 6] (t' := [(2, .ptr 0 0 none), (3, .ptr 1 0 none), (5, Rule.av a), (6, Rule.av b)]) (h' := [.box 51 (Rule.ch a), .box 51 (Rule.ch b)]) (by kernel_rfl) rfl ?_
  refine DK.op' [2, 3, 7] (t' := [(2, .ptr 0 0 none), (3, .ptr 1 0 none), (7, .sc (.bool (podestaref04_Key a b)))]) (h' := [.box 51 (Rule.ch a), .box 51 (Rule.ch b)]) (LSpec.callP' (podestaref04_Key_calls a b) (by kernel_rfl)) (by kernel_rfl) rfl (by kernel_rfl) rfl ?_
  refine DK.seg hG 1 [2, 3, 8] (t' := [(2, .ptr 0 0 none), (3, .ptr 1 0 none), (8, .sc (.bool (podestaref04_Key a b)))]) (h' := [.box 51 (Rule.ch a), .box 51 (Rule.ch b)]) (by kernel_rfl) rfl ?_
  refine DK.mux 8 (podestaref04_Key a b) (j := 10) (h' := [.box 51 (Rule.ch a), .box 51 (Rule.ch b)]) (by kernel_rfl) (fun z => [(2, .ptr 0 0 none), (3, .ptr 1 0 none), (14, .sc (.bool (z && (a.Acts == b.Acts))))]) ?J1 (fun hb J => ?ht1) (fun hb J => ?hf1)
  case ht1 =>
    refine DK.seg hG 4 [2, 3, 8, 10, 12] (t' := [(2, .ptr 0 0 none), (3, .ptr 1 0 none), (8, .sc (.bool true)), (10, .sl 60 (List.map Act.av a.Acts) false), (12, .sl 60 (List.map Act.av b.Acts) false)]) (h' := [.box 51 (Rule.ch a), .box 51 (Rule.ch b)]) (by kernel_rfl) rfl ?_
    refine DK.op' [2, 3, 8, 13] (t' := [(2, .ptr 0 0 none), (3, .ptr 1 0 none), (8, .sc (.bool true)), (13, .sc (.bool (a.Acts == b.Acts)))]) (h' := [.box 51 (Rule.ch a), .box 51 (Rule.ch b)]) (LSpec.callP' (podestaref04_SameActs_ok a.Acts b.Acts false false) (by kernel_rfl)) (by kernel_rfl) rfl (by kernel_rfl) rfl ?_
    exact DK.seg hG 1 [2, 3, 14] (by kernel_rfl) rfl J
  case hf1 =>
    exact DK.seg hG 6 [2, 3, 14] (by kernel_rfl) rfl J
  refine DK.seg hG 1 [2, 3, 15] (t' := [(2, .ptr 0 0 none), (3, .ptr 1 0 none), (15, .sc (.bool ((podestaref04_Key a b) && (a.Acts == b.Acts))))]) (h' := [.box 51 (Rule.ch a), .box 51 (Rule.ch b)]) (by kernel_rfl) rfl ?_
  refine DK.mux 15 ((podestaref04_Key a b) && (a.Acts == b.Acts)) (j := 17) (h' := [.box 51 (Rule.ch a), .box 51 (Rule.ch b)]) (by kernel_rfl) (fun z => [(2, .ptr 0 0 none), (3, .ptr 1 0 none), (21, .sc (.bool (z && (a.Idle == b.Idle))))]) ?J2 (fun hb J => ?ht2) (fun hb J => ?hf2)
  case ht2 =>
    exact DK.seg hG 6 [2, 3, 21] (by kernel_rfl) rfl J
  case hf2 =>
    exact DK.seg hG 6 [2, 3, 21] (by kernel_rfl) rfl J
  refine DK.seg hG 1 [2, 3, 22] (t' := [(2, .ptr 0 0 none), (3, .ptr 1 0 none), (22, .sc (.bool (((podestaref04_Key a b) && (a.Acts == b.Acts)) && (a.Idle == b.Idle))))]) (h' := [.box 51 (Rule.ch a), .box 51 (Rule.ch b)]) (by kernel_rfl) rfl ?_
  refine DK.mux 22 (((podestaref04_Key a b) && (a.Acts == b.Acts)) && (a.Idle == b.Idle)) (j := 24) (h' := [.box 51 (Rule.ch a), .box 51 (Rule.ch b)]) (by kernel_rfl) (fun z => [(2, .ptr 0 0 none), (3, .ptr 1 0 none), (28, .sc (.bool (z && (a.Hard == b.Hard))))]) ?J3 (fun hb J => ?ht3) (fun hb J => ?hf3)
  case ht3 =>
    exact DK.seg hG 6 [2, 3, 28] (by kernel_rfl) rfl J
  case hf3 =>
    exact DK.seg hG 6 [2, 3, 28] (by kernel_rfl) rfl J
  refine DK.seg hG 1 [2, 3, 29] (t' := [(2, .ptr 0 0 none), (3, .ptr 1 0 none), (29, .sc (.bool ((((podestaref04_Key a b) && (a.Acts == b.Acts)) && (a.Idle == b.Idle)) && (a.Hard == b.Hard))))]) (h' := [.box 51 (Rule.ch a), .box 51 (Rule.ch b)]) (by kernel_rfl) rfl ?_
  refine DK.mux 29 ((((podestaref04_Key a b) && (a.Acts == b.Acts)) && (a.Idle == b.Idle)) && (a.Hard == b.Hard)) (j := 31) (h' := [.box 51 (Rule.ch a), .box 51 (Rule.ch b)]) (by kernel_rfl) (fun z => [(2, .ptr 0 0 none), (3, .ptr 1 0 none), (35, .sc (.bool (z && (a.Owner == b.Owner))))]) ?J4 (fun hb J => ?ht4) (fun hb J => ?hf4)
  case ht4 =>
    exact DK.seg hG 6 [2, 3, 35] (by kernel_rfl) rfl J
  case hf4 =>
    exact DK.seg hG 6 [2, 3, 35] (by kernel_rfl) rfl J
  refine DK.seg hG 1 [2, 3, 36] (t' := [(2, .ptr 0 0 none), (3, .ptr 1 0 none), (36, .sc (.bool (((((podestaref04_Key a b) && (a.Acts == b.Acts)) && (a.Idle == b.Idle)) && (a.Hard == b.Hard)) && (a.Owner == b.Owner))))]) (h' := [.box 51 (Rule.ch a), .box 51 (Rule.ch b)]) (by kernel_rfl) rfl ?_
  refine DK.mux 36 (((((podestaref04_Key a b) && (a.Acts == b.Acts)) && (a.Idle == b.Idle)) && (a.Hard == b.Hard)) && (a.Owner == b.Owner)) (j := 38) (h' := [.box 51 (Rule.ch a), .box 51 (Rule.ch b)]) (by kernel_rfl) (fun z => [(2, .ptr 0 0 none), (3, .ptr 1 0 none), (42, .sc (.bool (z && (a.Hits == b.Hits))))]) ?J5 (fun hb J => ?ht5) (fun hb J => ?hf5)
  case ht5 =>
    exact DK.seg hG 6 [2, 3, 42] (by kernel_rfl) rfl J
  case hf5 =>
    exact DK.seg hG 6 [2, 3, 42] (by kernel_rfl) rfl J
  refine DK.seg hG 1 [2, 3, 43] (t' := [(2, .ptr 0 0 none), (3, .ptr 1 0 none), (43, .sc (.bool ((((((podestaref04_Key a b) && (a.Acts == b.Acts)) && (a.Idle == b.Idle)) && (a.Hard == b.Hard)) && (a.Owner == b.Owner)) && (a.Hits == b.Hits))))]) (h' := [.box 51 (Rule.ch a), .box 51 (Rule.ch b)]) (by kernel_rfl) rfl ?_
  refine DK.mux 43 ((((((podestaref04_Key a b) && (a.Acts == b.Acts)) && (a.Idle == b.Idle)) && (a.Hard == b.Hard)) && (a.Owner == b.Owner)) && (a.Hits == b.Hits)) (j := 45) (h' := [.box 51 (Rule.ch a), .box 51 (Rule.ch b)]) (by kernel_rfl) (fun z => [(2, .ptr 0 0 none), (3, .ptr 1 0 none), (49, .sc (.bool (z && (a.Quiet == b.Quiet))))]) ?J6 (fun hb J => ?ht6) (fun hb J => ?hf6)
  case ht6 =>
    exact DK.seg hG 6 [2, 3, 49] (by kernel_rfl) rfl J
  case hf6 =>
    exact DK.seg hG 6 [2, 3, 49] (by kernel_rfl) rfl J
  refine DK.seg hG 1 [2, 3, 50] (t' := [(2, .ptr 0 0 none), (3, .ptr 1 0 none), (50, .sc (.bool (((((((podestaref04_Key a b) && (a.Acts == b.Acts)) && (a.Idle == b.Idle)) && (a.Hard == b.Hard)) && (a.Owner == b.Owner)) && (a.Hits == b.Hits)) && (a.Quiet == b.Quiet))))]) (h' := [.box 51 (Rule.ch a), .box 51 (Rule.ch b)]) (by kernel_rfl) rfl ?_
  refine DK.mux 50 (((((((podestaref04_Key a b) && (a.Acts == b.Acts)) && (a.Idle == b.Idle)) && (a.Hard == b.Hard)) && (a.Owner == b.Owner)) && (a.Hits == b.Hits)) && (a.Quiet == b.Quiet)) (j := 52) (h' := [.box 51 (Rule.ch a), .box 51 (Rule.ch b)]) (by kernel_rfl) (fun z => [(56, .sc (.bool (z && (a.Age == b.Age))))]) ?J7 (fun hb J => ?ht7) (fun hb J => ?hf7)
  case ht7 =>
    exact DK.seg hG 6 [56] (by kernel_rfl) rfl J
  case hf7 =>
    exact DK.seg hG 6 [56] (by kernel_rfl) rfl J
  refine DK.seg hG 1 [4] (t' := [(4, .sc (.bool ((((((((podestaref04_Key a b) && (a.Acts == b.Acts)) && (a.Idle == b.Idle)) && (a.Hard == b.Hard)) && (a.Owner == b.Owner)) && (a.Hits == b.Hits)) && (a.Quiet == b.Quiet)) && (a.Age == b.Age))))]) (h' := [.box 51 (Rule.ch a), .box 51 (Rule.ch b)]) (by kernel_rfl) rfl ?_
  refine DK.done (by kernel_rfl) (by kernel_rfl) ?_
  subst H
  exact AR.ret0 (fn := Try.f24) hG Try.func24 (by kernel_rfl) hc0 (r0 := .sc (.bool ((((((((podestaref04_Key a b) && (a.Acts == b.Acts)) && (a.Idle == b.Idle)) && (a.Hard == b.Hard)) && (a.Owner == b.Owner)) && (a.Hits == b.Hits)) && (a.Quiet == b.Quiet)) && (a.Age == b.Age)))) (by kernel_rfl) (WkV.refl _)
theorem podestaref04_Equal_calls (a : Rule) (b : Rule) : ACalls Try.prog tab.S 24 [Rule.av a, Rule.av b] [] (.sc (.bool (podestaref04_Equal a b))) [] := podestaref04_Equal_walk a b _ rfl

/-! ### podestaref04.Same: function 11 -/
noncomputable def podestaref04_Same_F : Go.Sh.Fn := ⟨11, bodyOf Try.f11, 27⟩
def podestaref04_Same_k0 : List Kd := [.pure, .pure, .pure, .pure, .pure, .pure, .pure, .pure, .pure, .pure]
def podestaref04_Same_l0s (b : List Rule) : List Rule → Nat → Option (Sum (Unit) (Bool))
  | [], i =>
    some (.inl ())
  | x :: rest, i =>
    (ixO b ((i : Nat) : Int)).bind fun x1 =>
    (bif (!(podestaref04_Equal x x1)) then
      some (.inr false)
    else
      podestaref04_Same_l0s b rest (i + 1) )
theorem podestaref04_Same_l0_walk (a : List Rule) (b : List Rule) (f_a : Bool) (f_b : Bool) (r : Bool) (c0 : Ctx) (hc0 : c0.m.length = 0) (res : Sum (Unit) (Bool)) (J : ∀ w : Unit, res = .inl w → AR Try.prog tab podestaref04_Same_F c0 (Rp tab.S c0 (.sc (.bool r)) []) [.code [1, 1, 1]] [] []) (Jr : ∀ w, res = .inr w → w = r) :
    ∀ (rest : List Rule) (i : Nat) (hd : a.drop i = rest) (H : podestaref04_Same_l0s b rest i = some res), AR Try.prog tab podestaref04_Same_F c0 (Rp tab.S c0 (.sc (.bool r)) []) [.code [1, 1, 0, 1, 0, 0], .loop [1, 1, 0, 1, 0], .blk 0, .code [1, 1, 1]] [(0, .sl 51 (List.map Rule.av a) f_a), (1, .sl 51 (List.map Rule.av b) f_b), (5, .sc (.int .i64 ((i : Nat) : Int)))] [] := by
  have hG := tab_ok
  have hm := mixed
  intro rest
  induction rest with
  | nil =>
    intro i hd  H
    rw [podestaref04_Same_l0s] at H
    refine AR.facts 0 rfl fun hf => ?_
    have hlen : a.length ≤ 9223372036854775807 := by have hq := len_ok hf.2.1; rw [List.length_map] at hq; exact hq
    have hge : a.length ≤ i := List.drop_eq_nil_iff.1 hd
    have hc : (decide (((i : Nat) : Int) < (((List.map Rule.av a).length : Nat) : Int))) = false := by rw [List.length_map]; exact decide_eq_false (by omega)
    refine AR.seg hG hm 3 [0, 1, 5, 14] (k' := [.code [1, 1, 0, 1, 0, 0, 0, 1], .code [1, 1, 0, 1, 0, 0, 1], .loop [1, 1, 0, 1, 0], .blk 0, .code [1, 1, 1]]) (t' := [(0, .sl 51 (List.map Rule.av a) f_a), (1, .sl 51 (List.map Rule.av b) f_b), (5, .sc (.int .i64 ((i : Nat) : Int))), (14, .sc (.bool (decide (((i : Nat) : Int) < (((List.map Rule.av a).length : Nat) : Int)))))]) (h' := []) (by kernel_rfl) ?_
    refine AR.cond (.tmp 14) (decide (((i : Nat) : Int) < (((List.map Rule.av a).length : Nat) : Int))) (by kernel_rfl) (by kernel_rfl) (fun hb => ?ht8) (fun hb => ?hf8)
    case ht8 => exact absurd (hb.symm.trans hc) (by decide)
    case hf8 =>
      refine AR.seg hG hm 1 [] (k' := [.code [1, 1, 1]]) (t' := []) (h' := []) (by kernel_rfl) ?_
      refine AR.keep [] (t' := []) (by kernel_rfl) ?_
      exact J () (Option.some.inj H).symm
  | cons x rest ih =>
    intro i hd  H
    rw [podestaref04_Same_l0s] at H
    refine AR.facts 0 rfl fun hf => ?_
    have hlen : a.length ≤ 9223372036854775807 := by have hq := len_ok hf.2.1; rw [List.length_map] at hq; exact hq
    obtain ⟨hlt, hv_i, hd2⟩ := drop_cons hd
    have hc : (decide (((i : Nat) : Int) < (((List.map Rule.av a).length : Nat) : Int))) = true := by rw [List.length_map]; exact decide_eq_true (by omega)
    have hw : IntKind.i64.wrap (((i : Nat) : Int) + 1) = ((i + 1 : Nat) : Int) := wrapI_succ (by omega)
    refine AR.seg hG hm 3 [0, 1, 5, 14] (k' := [.code [1, 1, 0, 1, 0, 0, 0, 1], .code [1, 1, 0, 1, 0, 0, 1], .loop [1, 1, 0, 1, 0], .blk 0, .code [1, 1, 1]]) (t' := [(0, .sl 51 (List.map Rule.av a) f_a), (1, .sl 51 (List.map Rule.av b) f_b), (5, .sc (.int .i64 ((i : Nat) : Int))), (14, .sc (.bool (decide (((i : Nat) : Int) < (((List.map Rule.av a).length : Nat) : Int)))))]) (h' := []) (by kernel_rfl) ?_
    refine AR.cond (.tmp 14) (decide (((i : Nat) : Int) < (((List.map Rule.av a).length : Nat) : Int))) (by kernel_rfl) (by kernel_rfl) (fun hb => ?ht9) (fun hb => ?hf9)
    case ht9 =>
      refine AR.seg hG hm 4 [0, 1, 5] (k' := [.code [1, 1, 0, 1, 0, 0, 1, 0, 0, 0], .code [1, 1, 0, 1, 0, 0, 1, 0, 0, 1], .blk 1, .code [1, 1, 0, 1, 0, 0, 1, 1], .loop [1, 1, 0, 1, 0], .blk 0, .code [1, 1, 1]]) (t' := [(0, .sl 51 (List.map Rule.av a) f_a), (1, .sl 51 (List.map Rule.av b) f_b), (5, .sc (.int .i64 ((i : Nat) : Int)))]) (h' := []) (by kernel_rfl) ?_
      refine AR.reg hm podestaref04_Same_k0 (by kernel_rfl) ?_
      refine DK.seg hG 2 [0, 1, 5, 17, 18] (t' := [(0, .sl 51 (List.map Rule.av a) f_a), (1, .sl 51 (List.map Rule.av b) f_b), (5, .sc (.int .i64 ((i : Nat) : Int))), (17, .sl 51 (List.map Rule.av a) f_a), (18, .sc (.int .i64 ((i : Nat) : Int)))]) (h' := []) (by kernel_rfl) rfl ?_
      refine DK.op' [0, 1, 5, 19] (t' := [(0, .sl 51 (List.map Rule.av a) f_a), (1, .sl 51 (List.map Rule.av b) f_b), (5, .sc (.int .i64 ((i : Nat) : Int))), (19, .ep [.arr .u64 12 x.Match.Value, .arr .u64 12 x.Match.Care, .sc (.int .i64 x.Prio), .sl 60 (List.map Act.av x.Acts) false, .sc (.int .i64 x.Idle), .sc (.int .i64 x.Hard), .sc (.int .i64 x.Owner), .sc (.int .i64 x.Hits), .sc (.int .i64 x.Quiet), .sc (.int .i64 x.Age)] 0 none)]) (h' := []) (LSpec.index' (r := Rule.av x) (fs := [.arr .u64 12 x.Match.Value, .arr .u64 12 x.Match.Care, .sc (.int .i64 x.Prio), .sl 60 (List.map Act.av x.Acts) false, .sc (.int .i64 x.Idle), .sc (.int .i64 x.Hard), .sc (.int .i64 x.Owner), .sc (.int .i64 x.Hits), .sc (.int .i64 x.Quiet), .sc (.int .i64 x.Age)]) hG (rows := List.map Rule.av a) (j := ((i : Nat) : Int)) (by kernel_rfl) (ixO_map hv_i _) (by kernel_rfl)) (by kernel_rfl) rfl (by kernel_rfl) rfl ?_
      refine DK.seg hG 3 [0, 1, 5, 20, 21, 22] (t' := [(0, .sl 51 (List.map Rule.av a) f_a), (1, .sl 51 (List.map Rule.av b) f_b), (5, .sc (.int .i64 ((i : Nat) : Int))), (20, Rule.av x), (21, .sl 51 (List.map Rule.av b) f_b), (22, .sc (.int .i64 ((i : Nat) : Int)))]) (h' := []) (by kernel_rfl) rfl ?_
      obtain ⟨x1, hv, H⟩ := Option.bind_eq_some_iff.1 H
      refine DK.op' [0, 1, 5, 20, 23] (t' := [(0, .sl 51 (List.map Rule.av a) f_a), (1, .sl 51 (List.map Rule.av b) f_b), (5, .sc (.int .i64 ((i : Nat) : Int))), (20, Rule.av x), (23, .ep [.arr .u64 12 x1.Match.Value, .arr .u64 12 x1.Match.Care, .sc (.int .i64 x1.Prio), .sl 60 (List.map Act.av x1.Acts) false, .sc (.int .i64 x1.Idle), .sc (.int .i64 x1.Hard), .sc (.int .i64 x1.Owner), .sc (.int .i64 x1.Hits), .sc (.int .i64 x1.Quiet), .sc (.int .i64 x1.Age)] 0 none)]) (h' := []) (LSpec.index' (r := Rule.av x1) (fs := [.arr .u64 12 x1.Match.Value, .arr .u64 12 x1.Match.Care, .sc (.int .i64 x1.Prio), .sl 60 (List.map Act.av x1.Acts) false, .sc (.int .i64 x1.Idle), .sc (.int .i64 x1.Hard), .sc (.int .i64 x1.Owner), .sc (.int .i64 x1.Hits), .sc (.int .i64 x1.Quiet), .sc (.int .i64 x1.Age)]) hG (rows := List.map Rule.av b) (j := ((i : Nat) : Int)) (by kernel_rfl) (ixO_map hv _) (by kernel_rfl)) (by kernel_rfl) rfl (by kernel_rfl) rfl ?_
      refine DK.seg hG 1 [0, 1, 5, 20, 24] (t' := [(0, .sl 51 (List.map Rule.av a) f_a), (1, .sl 51 (List.map Rule.av b) f_b), (5, .sc (.int .i64 ((i : Nat) : Int))), (20, Rule.av x), (24, Rule.av x1)]) (h' := []) (by kernel_rfl) rfl ?_
      refine DK.op' [0, 1, 5, 25] (t' := [(0, .sl 51 (List.map Rule.av a) f_a), (1, .sl 51 (List.map Rule.av b) f_b), (5, .sc (.int .i64 ((i : Nat) : Int))), (25, .sc (.bool (podestaref04_Equal x x1)))]) (h' := []) (LSpec.callP' (podestaref04_Equal_calls x x1) (by kernel_rfl)) (by kernel_rfl) rfl (by kernel_rfl) rfl ?_
      refine DK.seg hG 1 [0, 1, 5, 26] (t' := [(0, .sl 51 (List.map Rule.av a) f_a), (1, .sl 51 (List.map Rule.av b) f_b), (5, .sc (.int .i64 ((i : Nat) : Int))), (26, .sc (.bool (!(podestaref04_Equal x x1))))]) (h' := []) (by kernel_rfl) rfl ?_
      refine DK.done (by kernel_rfl) (by kernel_rfl) ?_
      refine AR.cond (.tmp 26) (!(podestaref04_Equal x x1)) (by kernel_rfl) (by kernel_rfl) (fun hb => ?ht10) (fun hb => ?hf10)
      case ht10 =>
        replace H := cond_t hb H
        refine AR.seg hG hm 2 [4] (k' := [.code [1, 1, 0, 1, 0, 0, 1, 0, 0, 1, 0, 1], .blk 1, .code [1, 1, 0, 1, 0, 0, 1, 1], .loop [1, 1, 0, 1, 0], .blk 0, .code [1, 1, 1]]) (t' := [(4, .sc (.bool false))]) (h' := []) (by kernel_rfl) ?_
        obtain rfl := Option.some.inj H
        obtain rfl := Jr _ rfl
        exact AR.ret0 (fn := Try.f11) hG Try.func11 (by kernel_rfl) hc0 (r0 := .sc (.bool false)) (by kernel_rfl) (WkV.refl _)
      case hf10 =>
        replace H := cond_f hb H
        refine AR.seg hG hm 3 [0, 1, 5] (k' := [.loop [1, 1, 0, 1, 0], .blk 0, .code [1, 1, 1]]) (t' := [(0, .sl 51 (List.map Rule.av a) f_a), (1, .sl 51 (List.map Rule.av b) f_b), (5, .sc (.int .i64 (IntKind.i64.wrap (((i : Nat) : Int) + 1))))]) (h' := []) (by kernel_rfl) ?_
        refine AR.keep [0, 1, 5] (t' := [(0, .sl 51 (List.map Rule.av a) f_a), (1, .sl 51 (List.map Rule.av b) f_b), (5, .sc (.int .i64 (IntKind.i64.wrap (((i : Nat) : Int) + 1))))]) (by kernel_rfl) ?_
        refine AR.loop_round ?_
        rw [hw]
        exact ih (i + 1) hd2 H
    case hf9 => exact absurd (hc.symm.trans hb) (by decide)

def podestaref04_Same_raw (a : List Rule) (b : List Rule) : Option (Bool) :=
  (bif ((((List.map Rule.av a).length : Nat) : Int) != (((List.map Rule.av b).length : Nat) : Int)) then
    some false
  else
    loopO (podestaref04_Same_l0s b a 0) fun v =>
    some true)
theorem podestaref04_Same_walk (a : List Rule) (b : List Rule) (f_a : Bool) (f_b : Bool) (r : Bool) (H : podestaref04_Same_raw a b = some r) :
    ACalls Try.prog tab.S 11 [.sl 51 (List.map Rule.av a) f_a, .sl 51 (List.map Rule.av b) f_b] [] (.sc (.bool r)) [] := by
  have hG := tab_ok
  have hm := mixed
  refine ACalls.of_AR (G := tab) podestaref04_Same_F (fn := Try.f11) Try.func11 (by kernel_rfl) (by kernel_rfl) (by kernel_rfl) (Nat.le_of_ble_eq_true (by kernel_rfl)) ?_
  intro c0 hc0
  replace hc0 : c0.m.length = 0 := hc0
  rw [podestaref04_Same_raw] at H
  refine AR.seg hG hm 5 [0, 1, 10] (k' := [.code [1, 0, 1], .code [1, 1]]) (t' := [(0, .sl 51 (List.map Rule.av a) f_a), (1, .sl 51 (List.map Rule.av b) f_b), (10, .sc (.bool ((((List.map Rule.av a).length : Nat) : Int) != (((List.map Rule.av b).length : Nat) : Int))))]) (h' := []) (by kernel_rfl) ?_
  refine AR.cond (.tmp 10) ((((List.map Rule.av a).length : Nat) : Int) != (((List.map Rule.av b).length : Nat) : Int)) (by kernel_rfl) (by kernel_rfl) (fun hb => ?ht1) (fun hb => ?hf1)
  case ht1 =>
    replace H := cond_t hb H
    refine AR.seg hG hm 2 [4] (k' := [.code [1, 0, 1, 0, 1], .code [1, 1]]) (t' := [(4, .sc (.bool false))]) (h' := []) (by kernel_rfl) ?_
    obtain rfl := Option.some.inj H
    exact AR.ret0 (fn := Try.f11) hG Try.func11 (by kernel_rfl) hc0 (r0 := .sc (.bool false)) (by kernel_rfl) (WkV.refl _)
  case hf1 =>
    replace H := cond_f hb H
    refine AR.seg hG hm 5 [0, 1, 5] (k' := [.code [1, 1, 0, 1, 0], .blk 0, .code [1, 1, 1]]) (t' := [(0, .sl 51 (List.map Rule.av a) f_a), (1, .sl 51 (List.map Rule.av b) f_b), (5, .sc (.int .i64 0))]) (h' := []) (by kernel_rfl) ?_
    rcases loopO_some H with ⟨v, hv, H⟩ | hv
    case inr =>
      refine AR.into (by kernel_rfl) ?_
      exact podestaref04_Same_l0_walk a b f_a f_b _ c0 hc0 (.inr _) (fun _ e => by cases e) (fun _ e => (Sum.inr.inj e).symm) a 0 rfl hv
    refine AR.into (by kernel_rfl) ?_
    refine podestaref04_Same_l0_walk a b f_a f_b r c0 hc0 (.inl v) (fun w e => ?_) (fun _ e => by cases e) a 0 rfl hv
    have e := Sum.inl.inj e
    subst e
    refine AR.seg hG hm 2 [4] (k' := [.code [1, 1, 1, 1]]) (t' := [(4, .sc (.bool true))]) (h' := []) (by kernel_rfl) ?_
    obtain rfl := Option.some.inj H
    exact AR.ret0 (fn := Try.f11) hG Try.func11 (by kernel_rfl) hc0 (r0 := .sc (.bool true)) (by kernel_rfl) (WkV.refl _)

theorem podestaref04_Same_ok (a b : List Rule) (f_a f_b : Bool) : ACalls Try.prog tab.S 11 [.sl 51 (List.map Rule.av a) f_a, .sl 51 (List.map Rule.av b) f_b] [] (.sc (.bool (zipAll podestaref04_Equal a b))) [] := by
  refine podestaref04_Same_walk a b f_a f_b _ ?_
  rw [podestaref04_Same_raw, len_bne]
  by_cases h : a.length = b.length
  · simp only [h, decide_true, Bool.not_true, cond_false]
    rw [cmp_loop (v := false) (podestaref04_Same_l0s b) b podestaref04_Equal (fun _ => rfl) (fun x r i => by rw [podestaref04_Same_l0s]) a 0 (by omega), List.drop_zero]
    cases zipAll podestaref04_Equal a b <;> rfl
  · rw [zipAll_ne _ h]
    simp only [h, decide_false, Bool.not_false, cond_true]
theorem ref_Equal_eq (a b : Rule) : podestaref04_Equal a b = (a == b) := by
  obtain ⟨⟨v, c⟩, p, ac, i1, h1, o1, h2, q1, g1⟩ := a
  obtain ⟨⟨v', c'⟩, p', ac', i1', h1', o1', h2', q1', g1'⟩ := b
  rw [podestaref04_Equal, podestaref04_Key, Bool.eq_iff_iff]
  simp only [Bool.and_eq_true, beq_iff_eq, Rule.mk.injEq, Cube.mk.injEq]
  constructor
  · rintro ⟨⟨⟨⟨⟨⟨⟨⟨⟨a2, a3⟩, a4⟩, a1⟩, a5⟩, a6⟩, a7⟩, a8⟩, a9⟩, a10⟩
    exact ⟨⟨a2, a3⟩, a4, a1, a5, a6, a7, a8, a9, a10⟩
  · rintro ⟨⟨a2, a3⟩, a4, a1, a5, a6, a7, a8, a9, a10⟩
    exact ⟨⟨⟨⟨⟨⟨⟨⟨⟨a2, a3⟩, a4⟩, a1⟩, a5⟩, a6⟩, a7⟩, a8⟩, a9⟩, a10⟩
theorem ref_Same_eq (a b : List Rule) : zipAll podestaref04_Equal a b = (a == b) := by
  rw [← zipAll_beq]
  exact congrArg (fun f => zipAll f a b) (funext fun x => funext fun y => ref_Equal_eq x y)

end Go.Proofs.Ytlfiemphadkimaa

set_option linter.unusedVariables false
set_option linter.unusedSimpArgs false
set_option maxRecDepth 100000
set_option maxHeartbeats 4000000
namespace Go.Proofs.Ytlfiemphadkimaa
open Go.Sh
/-! ### undo.alone$1: function 48 -/
noncomputable def undo_alone_1_F : Go.Sh.Fn := ⟨48, bodyOf Try.f48, 7⟩
def undo_alone_1_k0 : List Kd := [.pure, .read, .pure, .pure]
def undo_alone_1 (x : Rule) (c : Rule) : Bool :=
  (rule_Equal c x)
theorem undo_alone_1_walk (x : Rule) (c : Rule) (r : Bool) (H : undo_alone_1 x c = r) :
    ACalls Try.prog tab.S 48 [Rule.av x, .ep [.arr .u64 12 c.Match.Value, .arr .u64 12 c.Match.Care, .sc (.int .i64 c.Prio), .sl 60 (List.map Act.av c.Acts) false, .sc (.int .i64 c.Idle), .sc (.int .i64 c.Hard), .sc (.int .i64 c.Owner), .sc (.int .i64 c.Hits), .sc (.int .i64 c.Quiet), .sc (.int .i64 c.Age)] 0 none] [] (.sc (.bool r)) [] := by
  have hG := tab_ok
  have hm := mixed
  refine ACalls.of_AR (G := tab) undo_alone_1_F (fn := Try.f48) Try.func48 (by kernel_rfl) (by kernel_rfl) (by kernel_rfl) (Nat.le_of_ble_eq_true (by kernel_rfl)) ?_
  intro c0 hc0
  replace hc0 : c0.m.length = 0 := hc0
  rw [undo_alone_1] at H
  refine AR.seg hG hm 3 [1, 2] (k' := [.code [1, 0], .code [1, 1]]) (t' := [(1, .ep [.arr .u64 12 c.Match.Value, .arr .u64 12 c.Match.Care, .sc (.int .i64 c.Prio), .sl 60 (List.map Act.av c.Acts) false, .sc (.int .i64 c.Idle), .sc (.int .i64 c.Hard), .sc (.int .i64 c.Owner), .sc (.int .i64 c.Hits), .sc (.int .i64 c.Quiet), .sc (.int .i64 c.Age)] 0 none), (2, .ptr 0 0 none)]) (h' := [.box 51 (Rule.ch x)]) (by kernel_rfl) ?_
  refine AR.reg hm undo_alone_1_k0 (by kernel_rfl) ?_
  refine DK.seg hG 2 [4, 5] (t' := [(4, Rule.av c), (5, Rule.av x)]) (h' := [.box 51 (Rule.ch x)]) (by kernel_rfl) rfl ?_
  refine DK.op' [6] (t' := [(6, .sc (.bool (rule_Equal c x)))]) (h' := [.box 51 (Rule.ch x)]) (LSpec.callP' (rule_Equal_calls c x) (by kernel_rfl)) (by kernel_rfl) rfl (by kernel_rfl) rfl ?_
  refine DK.seg hG 1 [3] (t' := [(3, .sc (.bool (rule_Equal c x)))]) (h' := [.box 51 (Rule.ch x)]) (by kernel_rfl) rfl ?_
  refine DK.done (by kernel_rfl) (by kernel_rfl) ?_
  subst H
  exact AR.ret0 (fn := Try.f48) hG Try.func48 (by kernel_rfl) hc0 (r0 := .sc (.bool (rule_Equal c x))) (by kernel_rfl) (WkV.refl _)
theorem undo_alone_1_calls (x : Rule) (c : Rule) : ACalls Try.prog tab.S 48 [Rule.av x, .ep [.arr .u64 12 c.Match.Value, .arr .u64 12 c.Match.Care, .sc (.int .i64 c.Prio), .sl 60 (List.map Act.av c.Acts) false, .sc (.int .i64 c.Idle), .sc (.int .i64 c.Hard), .sc (.int .i64 c.Owner), .sc (.int .i64 c.Hits), .sc (.int .i64 c.Quiet), .sc (.int .i64 c.Age)] 0 none] [] (.sc (.bool (undo_alone_1 x c))) [] := undo_alone_1_walk x c _ rfl

/-! ### undo.alone: function 27 -/
noncomputable def undo_alone_F : Go.Sh.Fn := ⟨27, bodyOf Try.f27, 25⟩
def undo_alone_k2 : List Kd := [.pure, .read, .pure, .loud, .pure]
def undo_alone_k1 : List Kd := [.pure, .pure, .read, .pure]
def undo_alone_k0 : List Kd := [.pure, .pure, .loud, .loud]
def undo_alone_k3 : List Kd := [.pure, .loud, .pure]
def undo_alone_l0s (b : List Rule) : List Rule → List Rule → Option ((List Rule))
  | [], out =>
    some out
  | x :: rest, out =>
    (bif (!(slices_ContainsFunc__api_Rule b (fun y0 => undo_alone_1 y0 x))) then
      fitO (out.length + [x].length) 272 (
      undo_alone_l0s b rest (out ++ [x]))
    else
      undo_alone_l0s b rest out)
theorem undo_alone_l0_walk (a : List Rule) (b : List Rule) (f_a : Bool) (f_b : Bool) (r : (List Rule)) (c0 : Ctx) (hc0 : c0.m.length = 0) (res : (List Rule)) (J : AR Try.prog tab undo_alone_F c0 (Rp tab.S c0 (.sl 51 (List.map Rule.av r) true) []) [.code [1, 1, 1]] [(5, .own 0 1000000)] [.row 51 (List.map Rule.av res) 1000000 true]) :
    ∀ (rest : List Rule) (t10 : Nat) (hd : a.drop t10 = rest) (out : List Rule) (H : undo_alone_l0s b rest out = some res), AR Try.prog tab undo_alone_F c0 (Rp tab.S c0 (.sl 51 (List.map Rule.av r) true) []) [.code [1, 1, 0, 1, 0, 0], .loop [1, 1, 0, 1, 0], .blk 0, .code [1, 1, 1]] [(1, .sl 51 (List.map Rule.av b) f_b), (5, .own 0 1000000), (8, .sl 51 (List.map Rule.av a) f_a), (9, .sc (.int .i64 (((List.map Rule.av a).length : Nat) : Int))), (10, .sc (.int .i64 ((t10 : Nat) : Int)))] [.row 51 (List.map Rule.av out) 1000000 true] := by
  have hG := tab_ok
  have hm := mixed
  intro rest
  induction rest with
  | nil =>
    intro t10 hd out H
    rw [undo_alone_l0s] at H
    refine AR.facts 8 rfl fun hf => ?_
    have hlen : a.length ≤ 9223372036854775807 := by have hq := len_ok hf.2.1; rw [List.length_map] at hq; exact hq
    have hge : a.length ≤ t10 := List.drop_eq_nil_iff.1 hd
    have hc : (decide (((t10 : Nat) : Int) < (((List.map Rule.av a).length : Nat) : Int))) = false := by rw [List.length_map]; exact decide_eq_false (by omega)
    refine AR.seg hG hm 3 [1, 5, 8, 9, 10, 11] (k' := [.code [1, 1, 0, 1, 0, 0, 1, 0], .code [1, 1, 0, 1, 0, 0, 1, 1], .loop [1, 1, 0, 1, 0], .blk 0, .code [1, 1, 1]]) (t' := [(1, .sl 51 (List.map Rule.av b) f_b), (5, .own 0 1000000), (8, .sl 51 (List.map Rule.av a) f_a), (9, .sc (.int .i64 (((List.map Rule.av a).length : Nat) : Int))), (10, .sc (.int .i64 ((t10 : Nat) : Int))), (11, .sc (.bool (decide (((t10 : Nat) : Int) < (((List.map Rule.av a).length : Nat) : Int)))))]) (h' := [.row 51 (List.map Rule.av out) 1000000 true]) (by kernel_rfl) ?_
    refine AR.cond (.tmp 11) (decide (((t10 : Nat) : Int) < (((List.map Rule.av a).length : Nat) : Int))) (by kernel_rfl) (by kernel_rfl) (fun hb => ?ht9) (fun hb => ?hf9)
    case ht9 => exact absurd (hb.symm.trans hc) (by decide)
    case hf9 =>
      refine AR.seg hG hm 1 [5] (k' := [.code [1, 1, 1]]) (t' := [(5, .own 0 1000000)]) (h' := [.row 51 (List.map Rule.av out) 1000000 true]) (by kernel_rfl) ?_
      refine AR.keep [5] (t' := [(5, .own 0 1000000)]) (by kernel_rfl) ?_
      obtain rfl := Option.some.inj H
      exact J
  | cons x rest ih =>
    intro t10 hd out H
    rw [undo_alone_l0s] at H
    refine AR.facts 8 rfl fun hf => ?_
    have hlen : a.length ≤ 9223372036854775807 := by have hq := len_ok hf.2.1; rw [List.length_map] at hq; exact hq
    obtain ⟨hlt, hv_t10, hd2⟩ := drop_cons hd
    have hc : (decide (((t10 : Nat) : Int) < (((List.map Rule.av a).length : Nat) : Int))) = true := by rw [List.length_map]; exact decide_eq_true (by omega)
    have hw : IntKind.i64.wrap (((t10 : Nat) : Int) + 1) = ((t10 + 1 : Nat) : Int) := wrapI_succ (by omega)
    refine AR.seg hG hm 3 [1, 5, 8, 9, 10, 11] (k' := [.code [1, 1, 0, 1, 0, 0, 1, 0], .code [1, 1, 0, 1, 0, 0, 1, 1], .loop [1, 1, 0, 1, 0], .blk 0, .code [1, 1, 1]]) (t' := [(1, .sl 51 (List.map Rule.av b) f_b), (5, .own 0 1000000), (8, .sl 51 (List.map Rule.av a) f_a), (9, .sc (.int .i64 (((List.map Rule.av a).length : Nat) : Int))), (10, .sc (.int .i64 ((t10 : Nat) : Int))), (11, .sc (.bool (decide (((t10 : Nat) : Int) < (((List.map Rule.av a).length : Nat) : Int)))))]) (h' := [.row 51 (List.map Rule.av out) 1000000 true]) (by kernel_rfl) ?_
    refine AR.cond (.tmp 11) (decide (((t10 : Nat) : Int) < (((List.map Rule.av a).length : Nat) : Int))) (by kernel_rfl) (by kernel_rfl) (fun hb => ?ht10) (fun hb => ?hf10)
    case ht10 =>
      refine AR.seg hG hm 4 [1, 5, 8, 9, 10] (k' := [.code [1, 1, 0, 1, 0, 0, 1, 1, 0, 0, 0], .code [1, 1, 0, 1, 0, 0, 1, 1, 0, 0, 1], .blk 1, .code [1, 1, 0, 1, 0, 0, 1, 1, 1], .loop [1, 1, 0, 1, 0], .blk 0, .code [1, 1, 1]]) (t' := [(1, .sl 51 (List.map Rule.av b) f_b), (5, .own 0 1000000), (8, .sl 51 (List.map Rule.av a) f_a), (9, .sc (.int .i64 (((List.map Rule.av a).length : Nat) : Int))), (10, .sc (.int .i64 ((t10 : Nat) : Int)))]) (h' := [.row 51 (List.map Rule.av out) 1000000 true]) (by kernel_rfl) ?_
      refine AR.reg hm undo_alone_k0 (by kernel_rfl) ?_
      refine DK.op' [1, 5, 8, 9, 10, 12] (t' := [(1, .sl 51 (List.map Rule.av b) f_b), (5, .own 0 1000000), (8, .sl 51 (List.map Rule.av a) f_a), (9, .sc (.int .i64 (((List.map Rule.av a).length : Nat) : Int))), (10, .sc (.int .i64 ((t10 : Nat) : Int))), (12, .ep [.arr .u64 12 x.Match.Value, .arr .u64 12 x.Match.Care, .sc (.int .i64 x.Prio), .sl 60 (List.map Act.av x.Acts) false, .sc (.int .i64 x.Idle), .sc (.int .i64 x.Hard), .sc (.int .i64 x.Owner), .sc (.int .i64 x.Hits), .sc (.int .i64 x.Quiet), .sc (.int .i64 x.Age)] 0 none)]) (h' := [.row 51 (List.map Rule.av out) 1000000 true]) (LSpec.index' (r := Rule.av x) (fs := [.arr .u64 12 x.Match.Value, .arr .u64 12 x.Match.Care, .sc (.int .i64 x.Prio), .sl 60 (List.map Act.av x.Acts) false, .sc (.int .i64 x.Idle), .sc (.int .i64 x.Hard), .sc (.int .i64 x.Owner), .sc (.int .i64 x.Hits), .sc (.int .i64 x.Quiet), .sc (.int .i64 x.Age)]) hG (rows := List.map Rule.av a) (j := ((t10 : Nat) : Int)) (by kernel_rfl) (ixO_map hv_t10 _) (by kernel_rfl)) (by kernel_rfl) rfl (by kernel_rfl) rfl ?_
      refine DK.seg hG 3 [1, 5, 7, 8, 9, 10] (t' := [(1, .sl 51 (List.map Rule.av b) f_b), (5, .own 0 1000000), (7, .ptr 1 0 none), (8, .sl 51 (List.map Rule.av a) f_a), (9, .sc (.int .i64 (((List.map Rule.av a).length : Nat) : Int))), (10, .sc (.int .i64 ((t10 : Nat) : Int)))]) (h' := [.row 51 (List.map Rule.av out) 1000000 true, .box 51 (Rule.ch x)]) (by kernel_rfl) rfl ?_
      refine DK.done (by kernel_rfl) (by kernel_rfl) ?_
      refine AR.seg hG hm 1 [1, 5, 7, 8, 9, 10] (k' := [.code [1, 1, 0, 1, 0, 0, 1, 1, 0, 0, 1, 0], .code [1, 1, 0, 1, 0, 0, 1, 1, 0, 0, 1, 1], .blk 1, .code [1, 1, 0, 1, 0, 0, 1, 1, 1], .loop [1, 1, 0, 1, 0], .blk 0, .code [1, 1, 1]]) (t' := [(1, .sl 51 (List.map Rule.av b) f_b), (5, .own 0 1000000), (7, .ptr 1 0 none), (8, .sl 51 (List.map Rule.av a) f_a), (9, .sc (.int .i64 (((List.map Rule.av a).length : Nat) : Int))), (10, .sc (.int .i64 ((t10 : Nat) : Int)))]) (h' := [.row 51 (List.map Rule.av out) 1000000 true, .box 51 (Rule.ch x)]) (by kernel_rfl) ?_
      refine AR.reg hm undo_alone_k1 (by kernel_rfl) ?_
      refine DK.seg hG 2 [1, 5, 7, 8, 9, 10, 14, 15] (t' := [(1, .sl 51 (List.map Rule.av b) f_b), (5, .own 0 1000000), (7, .ptr 1 0 none), (8, .sl 51 (List.map Rule.av a) f_a), (9, .sc (.int .i64 (((List.map Rule.av a).length : Nat) : Int))), (10, .sc (.int .i64 ((t10 : Nat) : Int))), (14, .sl 51 (List.map Rule.av b) f_b), (15, .fn 48 [.ptr 1 0 none])]) (h' := [.row 51 (List.map Rule.av out) 1000000 true, .box 51 (Rule.ch x)]) (by kernel_rfl) rfl ?_
      refine DK.op' [1, 5, 7, 8, 9, 10, 16] (t' := [(1, .sl 51 (List.map Rule.av b) f_b), (5, .own 0 1000000), (7, .ptr 1 0 none), (8, .sl 51 (List.map Rule.av a) f_a), (9, .sc (.int .i64 (((List.map Rule.av a).length : Nat) : Int))), (10, .sc (.int .i64 ((t10 : Nat) : Int))), (16, .sc (.bool (slices_ContainsFunc__api_Rule b (fun y0 => undo_alone_1 y0 x))))]) (h' := [.row 51 (List.map Rule.av out) 1000000 true, .box 51 (Rule.ch x)]) (LSpec.callF' (caps := []) (slices_ContainsFunc__api_Rule_calls b 48 [.ep [.arr .u64 12 x.Match.Value, .arr .u64 12 x.Match.Care, .sc (.int .i64 x.Prio), .sl 60 (List.map Act.av x.Acts) false, .sc (.int .i64 x.Idle), .sc (.int .i64 x.Hard), .sc (.int .i64 x.Owner), .sc (.int .i64 x.Hits), .sc (.int .i64 x.Quiet), .sc (.int .i64 x.Age)] 0 none] (fun y0 => undo_alone_1 y0 x) rfl rfl (fun y0 => undo_alone_1_calls y0 x) f_b) (by kernel_rfl) (.same rfl (.fn (caps := [.ptr 1 0 none]) (by kernel_rfl) .nil)) (by kernel_rfl) rfl rfl) (by kernel_rfl) rfl (by kernel_rfl) rfl ?_
      refine DK.seg hG 1 [1, 5, 7, 8, 9, 10, 17] (t' := [(1, .sl 51 (List.map Rule.av b) f_b), (5, .own 0 1000000), (7, .ptr 1 0 none), (8, .sl 51 (List.map Rule.av a) f_a), (9, .sc (.int .i64 (((List.map Rule.av a).length : Nat) : Int))), (10, .sc (.int .i64 ((t10 : Nat) : Int))), (17, .sc (.bool (!(slices_ContainsFunc__api_Rule b (fun y0 => undo_alone_1 y0 x)))))]) (h' := [.row 51 (List.map Rule.av out) 1000000 true, .box 51 (Rule.ch x)]) (by kernel_rfl) rfl ?_
      refine DK.done (by kernel_rfl) (by kernel_rfl) ?_
      refine AR.cond (.tmp 17) (!(slices_ContainsFunc__api_Rule b (fun y0 => undo_alone_1 y0 x))) (by kernel_rfl) (by kernel_rfl) (fun hb => ?ht11) (fun hb => ?hf11)
      case ht11 =>
        replace H := cond_t hb H
        refine AR.reg hm undo_alone_k2 (by kernel_rfl) ?_
        refine DK.seg hG 3 [1, 8, 9, 10, 18, 20] (t' := [(1, .sl 51 (List.map Rule.av b) f_b), (8, .sl 51 (List.map Rule.av a) f_a), (9, .sc (.int .i64 (((List.map Rule.av a).length : Nat) : Int))), (10, .sc (.int .i64 ((t10 : Nat) : Int))), (18, .own 0 1000000), (20, .sl 51 (List.map Rule.av [x]) true)]) (h' := [.row 51 (List.map Rule.av out) 1000000 true, .box 51 (Rule.ch x)]) (by kernel_rfl) rfl ?_
        obtain ⟨hfit, H⟩ := fitO_some H
        refine DK.op' [1, 8, 9, 10, 21] (t' := [(1, .sl 51 (List.map Rule.av b) f_b), (8, .sl 51 (List.map Rule.av a) f_a), (9, .sc (.int .i64 (((List.map Rule.av a).length : Nat) : Int))), (10, .sc (.int .i64 ((t10 : Nat) : Int))), (21, .own 0 1000001)]) (h' := [.row 51 (List.map Rule.av (out ++ [x])) 1000001 true, .box 51 (Rule.ch x)]) (LSpec.append' hG Rule.av out [x] 0 1000000 51 272 hfit (by kernel_rfl)) (by kernel_rfl) (by kernel_rfl) (by kernel_rfl) rfl ?_
        refine DK.seg hG 1 [1, 5, 8, 9, 10] (t' := [(1, .sl 51 (List.map Rule.av b) f_b), (5, .own 0 1000001), (8, .sl 51 (List.map Rule.av a) f_a), (9, .sc (.int .i64 (((List.map Rule.av a).length : Nat) : Int))), (10, .sc (.int .i64 ((t10 : Nat) : Int)))]) (h' := [.row 51 (List.map Rule.av (out ++ [x])) 1000001 true, .box 51 (Rule.ch x)]) (by kernel_rfl) rfl ?_
        refine DK.done (by kernel_rfl) (by kernel_rfl) ?_
        refine AR.seg hG hm 2 [1, 5, 8, 9, 10] (k' := [.loop [1, 1, 0, 1, 0], .blk 0, .code [1, 1, 1]]) (t' := [(1, .sl 51 (List.map Rule.av b) f_b), (5, .own 0 1000001), (8, .sl 51 (List.map Rule.av a) f_a), (9, .sc (.int .i64 (((List.map Rule.av a).length : Nat) : Int))), (10, .sc (.int .i64 (IntKind.i64.wrap (((t10 : Nat) : Int) + 1))))]) (h' := [.row 51 (List.map Rule.av (out ++ [x])) 1000001 true, .box 51 (Rule.ch x)]) (by kernel_rfl) ?_
        refine AR.keep [1, 5, 8, 9, 10] (t' := [(1, .sl 51 (List.map Rule.av b) f_b), (5, .own 0 1000001), (8, .sl 51 (List.map Rule.av a) f_a), (9, .sc (.int .i64 (((List.map Rule.av a).length : Nat) : Int))), (10, .sc (.int .i64 (IntKind.i64.wrap (((t10 : Nat) : Int) + 1))))]) (by kernel_rfl) ?_
        refine AR.norm' 0 1000000 hc0 (t' := [(1, .sl 51 (List.map Rule.av b) f_b), (5, .own 0 1000000), (8, .sl 51 (List.map Rule.av a) f_a), (9, .sc (.int .i64 (((List.map Rule.av a).length : Nat) : Int))), (10, .sc (.int .i64 (IntKind.i64.wrap (((t10 : Nat) : Int) + 1))))]) (h' := [.row 51 (List.map Rule.av (out ++ [x])) 1000000 true, .box 51 (Rule.ch x)]) (by kernel_rfl) ?_
        refine AR.drop' 1 hc0 (t' := [(1, .sl 51 (List.map Rule.av b) f_b), (5, .own 0 1000000), (8, .sl 51 (List.map Rule.av a) f_a), (9, .sc (.int .i64 (((List.map Rule.av a).length : Nat) : Int))), (10, .sc (.int .i64 (IntKind.i64.wrap (((t10 : Nat) : Int) + 1))))]) (h' := [.row 51 (List.map Rule.av (out ++ [x])) 1000000 true]) (by kernel_rfl) ?_
        refine AR.loop_round ?_
        rw [hw]
        exact ih (t10 + 1) hd2 (out ++ [x]) H
      case hf11 =>
        replace H := cond_f hb H
        refine AR.seg hG hm 3 [1, 5, 8, 9, 10] (k' := [.loop [1, 1, 0, 1, 0], .blk 0, .code [1, 1, 1]]) (t' := [(1, .sl 51 (List.map Rule.av b) f_b), (5, .own 0 1000000), (8, .sl 51 (List.map Rule.av a) f_a), (9, .sc (.int .i64 (((List.map Rule.av a).length : Nat) : Int))), (10, .sc (.int .i64 (IntKind.i64.wrap (((t10 : Nat) : Int) + 1))))]) (h' := [.row 51 (List.map Rule.av out) 1000000 true, .box 51 (Rule.ch x)]) (by kernel_rfl) ?_
        refine AR.keep [1, 5, 8, 9, 10] (t' := [(1, .sl 51 (List.map Rule.av b) f_b), (5, .own 0 1000000), (8, .sl 51 (List.map Rule.av a) f_a), (9, .sc (.int .i64 (((List.map Rule.av a).length : Nat) : Int))), (10, .sc (.int .i64 (IntKind.i64.wrap (((t10 : Nat) : Int) + 1))))]) (by kernel_rfl) ?_
        refine AR.drop' 1 hc0 (t' := [(1, .sl 51 (List.map Rule.av b) f_b), (5, .own 0 1000000), (8, .sl 51 (List.map Rule.av a) f_a), (9, .sc (.int .i64 (((List.map Rule.av a).length : Nat) : Int))), (10, .sc (.int .i64 (IntKind.i64.wrap (((t10 : Nat) : Int) + 1))))]) (h' := [.row 51 (List.map Rule.av out) 1000000 true]) (by kernel_rfl) ?_
        refine AR.loop_round ?_
        rw [hw]
        exact ih (t10 + 1) hd2 out H
    case hf10 => exact absurd (hc.symm.trans hb) (by decide)

def undo_alone_raw (a : List Rule) (b : List Rule) : Option ((List Rule)) :=
  (undo_alone_l0s b a ([] : List Rule)).bind fun v =>
  some v
theorem undo_alone_walk (a : List Rule) (b : List Rule) (f_a : Bool) (f_b : Bool) (r : (List Rule)) (H : undo_alone_raw a b = some r) :
    ACalls Try.prog tab.S 27 [.sl 51 (List.map Rule.av a) f_a, .sl 51 (List.map Rule.av b) f_b] [] (.sl 51 (List.map Rule.av r) true) [] := by
  have hG := tab_ok
  have hm := mixed
  refine ACalls.of_AR (G := tab) undo_alone_F (fn := Try.f27) Try.func27 (by kernel_rfl) (by kernel_rfl) (by kernel_rfl) (Nat.le_of_ble_eq_true (by kernel_rfl)) ?_
  intro c0 hc0
  replace hc0 : c0.m.length = 0 := hc0
  rw [undo_alone_raw] at H
  refine AR.seg hG hm 8 [1, 5, 8, 9, 10] (k' := [.code [1, 1, 0, 1, 0], .blk 0, .code [1, 1, 1]]) (t' := [(1, .sl 51 (List.map Rule.av b) f_b), (5, .sl 0 [] true), (8, .sl 51 (List.map Rule.av a) f_a), (9, .sc (.int .i64 (((List.map Rule.av a).length : Nat) : Int))), (10, .sc (.int .i64 0))]) (h' := []) (by kernel_rfl) ?_
  refine AR.adoptB' 5 51 (t' := [(5, .own 0 1000000), (1, .sl 51 (List.map Rule.av b) f_b), (8, .sl 51 (List.map Rule.av a) f_a), (9, .sc (.int .i64 (((List.map Rule.av a).length : Nat) : Int))), (10, .sc (.int .i64 0))]) (h' := [.row 51 (List.map Rule.av ([] : List Rule)) 1000000 true]) (by kernel_rfl) ?_
  refine AR.keep [1, 5, 8, 9, 10] (t' := [(1, .sl 51 (List.map Rule.av b) f_b), (5, .own 0 1000000), (8, .sl 51 (List.map Rule.av a) f_a), (9, .sc (.int .i64 (((List.map Rule.av a).length : Nat) : Int))), (10, .sc (.int .i64 0))]) (by kernel_rfl) ?_
  obtain ⟨v, hv, H⟩ := Option.bind_eq_some_iff.1 H
  refine AR.into (by kernel_rfl) ?_
  refine undo_alone_l0_walk a b f_a f_b r c0 hc0 v ?_ a 0 rfl ([] : List Rule) hv
  refine AR.seg hG hm 1 [5] (k' := [.code [1, 1, 1, 0], .code [1, 1, 1, 1]]) (t' := [(5, .own 0 1000000)]) (h' := [.row 51 (List.map Rule.av v) 1000000 true]) (by kernel_rfl) ?_
  refine AR.reg hm undo_alone_k3 (by kernel_rfl) ?_
  refine DK.seg hG 1 [23] (t' := [(23, .own 0 1000000)]) (h' := [.row 51 (List.map Rule.av v) 1000000 true]) (by kernel_rfl) rfl ?_
  refine DK.op' [24] (t' := [(24, .sl 51 (List.map Rule.av v) true)]) (h' := [.row 51 (List.map Rule.av v) 1000000 false]) (LSpec.callC' [0] (rule_Copy_ok v false) (by kernel_rfl) (by kernel_rfl)) (by kernel_rfl) (by kernel_rfl) (by kernel_rfl) rfl ?_
  refine DK.seg hG 1 [4] (t' := [(4, .sl 51 (List.map Rule.av v) true)]) (h' := [.row 51 (List.map Rule.av v) 1000000 false]) (by kernel_rfl) rfl ?_
  refine DK.done (by kernel_rfl) (by kernel_rfl) ?_
  obtain rfl := Option.some.inj H
  exact AR.ret0 (fn := Try.f27) hG Try.func27 (by kernel_rfl) hc0 (r0 := .sl 51 (List.map Rule.av v) true) (by kernel_rfl) (WkV.refl _)

def aloneR (a b : List Rule) : List Rule := a.filter (fun x => !(b.any fun y => x == y))
theorem undo_alone_l0s_eq (b : List Rule) : ∀ (l out : List Rule), (out.length + l.length) * 272 ≤ 140737488355328 → undo_alone_l0s b l out = some (out ++ aloneR l b)
  | [], out, _ => by rw [undo_alone_l0s]; simp [aloneR]
  | x :: l, out, h => by
      rw [List.length_cons] at h
      have e : slices_ContainsFunc__api_Rule b (fun y0 => undo_alone_1 y0 x) = b.any (fun y => x == y) := by
        rw [slices_ContainsFunc__api_Rule_any]
        exact congrArg b.any (funext fun y => rule_Equal_eq x y)
      rw [undo_alone_l0s, e, fitO_eq (by rw [List.length_cons, List.length_nil]; omega), undo_alone_l0s_eq b l (out ++ [x]) (by rw [List.length_append, List.length_cons, List.length_nil]; omega), undo_alone_l0s_eq b l out (by omega), List.append_assoc]
      unfold aloneR
      rw [List.filter_cons]
      cases b.any (fun y => x == y) <;> rfl
theorem undo_alone_ok (a b : List Rule) (f g : Bool) : ACalls Try.prog tab.S 27 [.sl 51 (List.map Rule.av a) f, .sl 51 (List.map Rule.av b) g] [] (.sl 51 (List.map Rule.av (aloneR a b)) true) [] := by
  refine ACalls.facts (ent_of Try.func27 (by kernel_rfl) (by kernel_rfl)) fun hf => ?_
  have l0 : a.length * 272 ≤ 140737488355328 := by have h := hf.1.1; rw [List.length_map] at h; exact h
  refine undo_alone_walk a b f g _ ?_
  rw [undo_alone_raw, undo_alone_l0s_eq b a [] (by rw [List.length_nil, Nat.zero_add]; exact l0)]
  rfl

end Go.Proofs.Ytlfiemphadkimaa

set_option linter.unusedVariables false
set_option linter.unusedSimpArgs false
set_option maxRecDepth 100000
set_option maxHeartbeats 4000000
namespace Go.Proofs.Ytlfiemphadkimaa
open Go.Sh
/-! ### undo.Diff: function 13 -/
noncomputable def undo_Diff_F : Go.Sh.Fn := ⟨13, bodyOf Try.f13, 21⟩
def undo_Diff_k1 : List Kd := [.pure, .pure, .pure, .pure, .pure, .pure, .pure, .loud]
def undo_Diff_k0 : List Kd := [.pure, .pure, .pure, .pure, .pure, .pure, .pure, .pure]
def undo_Diff (before : List Rule) (after : List Rule) : Patch :=
  (bif ((!(tableR before)) || (!(tableR after))) then
    ({ Gone := [], New := [] } : Patch)
  else
    ({ Gone := (aloneR before after), New := (aloneR after before) } : Patch))
theorem undo_Diff_walk (before : List Rule) (after : List Rule) (f_before : Bool) (f_after : Bool) (r : Patch) (H : undo_Diff before after = r) :
    ACalls Try.prog tab.S 13 [.sl 51 (List.map Rule.av before) f_before, .sl 51 (List.map Rule.av after) f_after] [] (Patch.av r) [] := by
  have hG := tab_ok
  have hm := mixed
  refine ACalls.of_AR (G := tab) undo_Diff_F (fn := Try.f13) Try.func13 (by kernel_rfl) (by kernel_rfl) (by kernel_rfl) (Nat.le_of_ble_eq_true (by kernel_rfl)) ?_
  intro c0 hc0
  replace hc0 : c0.m.length = 0 := hc0
  rw [undo_Diff] at H
  refine AR.seg hG hm 4 [0, 1, 4] (k' := [.code [1, 0, 0], .code [1, 0, 1], .code [1, 1]]) (t' := [(0, .sl 51 (List.map Rule.av before) f_before), (1, .sl 51 (List.map Rule.av after) f_after), (4, .ptr 0 0 none)]) (h' := [.box 35 [.sl 0 [] true, .sl 0 [] true]]) (by kernel_rfl) ?_
  refine AR.reg hm undo_Diff_k0 (by kernel_rfl) ?_
  refine DK.seg hG 1 [0, 1, 4, 5] (t' := [(0, .sl 51 (List.map Rule.av before) f_before), (1, .sl 51 (List.map Rule.av after) f_after), (4, .ptr 0 0 none), (5, .sl 51 (List.map Rule.av before) f_before)]) (h' := [.box 35 [.sl 0 [] true, .sl 0 [] true]]) (by kernel_rfl) rfl ?_
  refine DK.op' [0, 1, 4, 6] (t' := [(0, .sl 51 (List.map Rule.av before) f_before), (1, .sl 51 (List.map Rule.av after) f_after), (4, .ptr 0 0 none), (6, .sc (.bool (tableR before)))]) (h' := [.box 35 [.sl 0 [] true, .sl 0 [] true]]) (LSpec.callP' (rule_Table_ok before f_before) (by kernel_rfl)) (by kernel_rfl) rfl (by kernel_rfl) rfl ?_
  refine DK.seg hG 2 [0, 1, 4, 8] (t' := [(0, .sl 51 (List.map Rule.av before) f_before), (1, .sl 51 (List.map Rule.av after) f_after), (4, .ptr 0 0 none), (8, .sc (.bool (!(tableR before))))]) (h' := [.box 35 [.sl 0 [] true, .sl 0 [] true]]) (by kernel_rfl) rfl ?_
  refine DK.mux 8 (!(tableR before)) (j := 8) (h' := [.box 35 [.sl 0 [] true, .sl 0 [] true]]) (by kernel_rfl) (fun z => [(0, .sl 51 (List.map Rule.av before) f_before), (1, .sl 51 (List.map Rule.av after) f_after), (4, .ptr 0 0 none), (12, .sc (.bool (z || (!(tableR after)))))]) ?J1 (fun hb J => ?ht1) (fun hb J => ?hf1)
  case ht1 =>
    exact DK.seg hG 4 [0, 1, 4, 12] (by kernel_rfl) rfl J
  case hf1 =>
    refine DK.seg hG 1 [0, 1, 4, 8, 9] (t' := [(0, .sl 51 (List.map Rule.av before) f_before), (1, .sl 51 (List.map Rule.av after) f_after), (4, .ptr 0 0 none), (8, .sc (.bool false)), (9, .sl 51 (List.map Rule.av after) f_after)]) (h' := [.box 35 [.sl 0 [] true, .sl 0 [] true]]) (by kernel_rfl) rfl ?_
    refine DK.op' [0, 1, 4, 8, 10] (t' := [(0, .sl 51 (List.map Rule.av before) f_before), (1, .sl 51 (List.map Rule.av after) f_after), (4, .ptr 0 0 none), (8, .sc (.bool false)), (10, .sc (.bool (tableR after)))]) (h' := [.box 35 [.sl 0 [] true, .sl 0 [] true]]) (LSpec.callP' (rule_Table_ok after f_after) (by kernel_rfl)) (by kernel_rfl) rfl (by kernel_rfl) rfl ?_
    exact DK.seg hG 2 [0, 1, 4, 12] (by kernel_rfl) rfl J
  refine DK.done (by kernel_rfl) (by kernel_rfl) ?_
  refine AR.cond (.tmp 12) ((!(tableR before)) || (!(tableR after))) (by kernel_rfl) (by kernel_rfl) (fun hb => ?ht2) (fun hb => ?hf2)
  case ht2 =>
    replace H := cond_t hb H
    refine AR.seg hG hm 2 [4] (k' := [.code [1, 0, 1, 0, 1], .code [1, 1]]) (t' := [(4, .ptr 0 0 none)]) (h' := [.box 35 [.sl 0 [] true, .sl 0 [] true]]) (by kernel_rfl) ?_
    subst H
    exact AR.ret0 (fn := Try.f13) hG Try.func13 (by kernel_rfl) hc0 (r0 := .agg [.sl 0 [] true, .sl 0 [] true]) (by kernel_rfl) (WkV.agg (WkL.cons (Wk1.nil 51 false) (WkL.cons (Wk1.nil 51 false) WkL.nil)))
  case hf2 =>
    replace H := cond_f hb H
    refine AR.seg hG hm 2 [0, 1, 4] (k' := [.code [1, 1, 0], .code [1, 1, 1]]) (t' := [(0, .sl 51 (List.map Rule.av before) f_before), (1, .sl 51 (List.map Rule.av after) f_after), (4, .ptr 0 0 none)]) (h' := [.box 35 [.sl 0 [] true, .sl 0 [] true]]) (by kernel_rfl) ?_
    refine AR.reg hm undo_Diff_k1 (by kernel_rfl) ?_
    refine DK.seg hG 2 [0, 1, 4, 14, 15] (t' := [(0, .sl 51 (List.map Rule.av before) f_before), (1, .sl 51 (List.map Rule.av after) f_after), (4, .ptr 0 0 none), (14, .sl 51 (List.map Rule.av before) f_before), (15, .sl 51 (List.map Rule.av after) f_after)]) (h' := [.box 35 [.sl 0 [] true, .sl 0 [] true]]) (by kernel_rfl) rfl ?_
    refine DK.op' [0, 1, 4, 16] (t' := [(0, .sl 51 (List.map Rule.av before) f_before), (1, .sl 51 (List.map Rule.av after) f_after), (4, .ptr 0 0 none), (16, .sl 51 (List.map Rule.av (aloneR before after)) true)]) (h' := [.box 35 [.sl 0 [] true, .sl 0 [] true]]) (LSpec.callP' (undo_alone_ok before after f_before f_after) (by kernel_rfl)) (by kernel_rfl) rfl (by kernel_rfl) rfl ?_
    refine DK.seg hG 2 [4, 16, 17, 18] (t' := [(4, .ptr 0 0 none), (16, .sl 51 (List.map Rule.av (aloneR before after)) true), (17, .sl 51 (List.map Rule.av after) f_after), (18, .sl 51 (List.map Rule.av before) f_before)]) (h' := [.box 35 [.sl 0 [] true, .sl 0 [] true]]) (by kernel_rfl) rfl ?_
    refine DK.op' [4, 16, 19] (t' := [(4, .ptr 0 0 none), (16, .sl 51 (List.map Rule.av (aloneR before after)) true), (19, .sl 51 (List.map Rule.av (aloneR after before)) true)]) (h' := [.box 35 [.sl 0 [] true, .sl 0 [] true]]) (LSpec.callP' (undo_alone_ok after before f_after f_before) (by kernel_rfl)) (by kernel_rfl) rfl (by kernel_rfl) rfl ?_
    refine DK.seg hG 2 [4] (t' := [(4, .ptr 0 0 none)]) (h' := [.box 35 [.sl 51 (List.map Rule.av (aloneR before after)) true, .sl 51 (List.map Rule.av (aloneR after before)) true]]) (by kernel_rfl) rfl ?_
    refine DK.done (by kernel_rfl) (by kernel_rfl) ?_
    subst H
    exact AR.ret0 (fn := Try.f13) hG Try.func13 (by kernel_rfl) hc0 (r0 := .agg [.sl 51 (List.map Rule.av (aloneR before after)) true, .sl 51 (List.map Rule.av (aloneR after before)) true]) (by kernel_rfl) (WkV.agg (WkL.cons (Wk1.anyFull true) (WkL.cons (Wk1.anyFull true) WkL.nil)))
theorem undo_Diff_calls (before : List Rule) (after : List Rule) (f_before : Bool) (f_after : Bool) : ACalls Try.prog tab.S 13 [.sl 51 (List.map Rule.av before) f_before, .sl 51 (List.map Rule.av after) f_after] [] (Patch.av (undo_Diff before after)) [] := undo_Diff_walk before after f_before f_after _ rfl

/-! ### undo.swap$1: function 43 -/
noncomputable def undo_swap_1_F : Go.Sh.Fn := ⟨43, bodyOf Try.f43, 7⟩
def undo_swap_1_k0 : List Kd := [.read, .pure, .pure, .pure]
def undo_swap_1 (x : Rule) (c : Rule) : Bool :=
  (rule_Key x c)
theorem undo_swap_1_walk (x : Rule) (c : Rule) (r : Bool) (H : undo_swap_1 x c = r) :
    ACalls Try.prog tab.S 43 [Rule.av x, .ep [.arr .u64 12 c.Match.Value, .arr .u64 12 c.Match.Care, .sc (.int .i64 c.Prio), .sl 60 (List.map Act.av c.Acts) false, .sc (.int .i64 c.Idle), .sc (.int .i64 c.Hard), .sc (.int .i64 c.Owner), .sc (.int .i64 c.Hits), .sc (.int .i64 c.Quiet), .sc (.int .i64 c.Age)] 0 none] [] (.sc (.bool r)) [] := by
  have hG := tab_ok
  have hm := mixed
  refine ACalls.of_AR (G := tab) undo_swap_1_F (fn := Try.f43) Try.func43 (by kernel_rfl) (by kernel_rfl) (by kernel_rfl) (Nat.le_of_ble_eq_true (by kernel_rfl)) ?_
  intro c0 hc0
  replace hc0 : c0.m.length = 0 := hc0
  rw [undo_swap_1] at H
  refine AR.seg hG hm 3 [1, 2] (k' := [.code [1, 0], .code [1, 1]]) (t' := [(1, .ep [.arr .u64 12 c.Match.Value, .arr .u64 12 c.Match.Care, .sc (.int .i64 c.Prio), .sl 60 (List.map Act.av c.Acts) false, .sc (.int .i64 c.Idle), .sc (.int .i64 c.Hard), .sc (.int .i64 c.Owner), .sc (.int .i64 c.Hits), .sc (.int .i64 c.Quiet), .sc (.int .i64 c.Age)] 0 none), (2, .ptr 0 0 none)]) (h' := [.box 51 (Rule.ch x)]) (by kernel_rfl) ?_
  refine AR.reg hm undo_swap_1_k0 (by kernel_rfl) ?_
  refine DK.seg hG 2 [4, 5] (t' := [(4, Rule.av x), (5, Rule.av c)]) (h' := [.box 51 (Rule.ch x)]) (by kernel_rfl) rfl ?_
  refine DK.op' [6] (t' := [(6, .sc (.bool (rule_Key x c)))]) (h' := [.box 51 (Rule.ch x)]) (LSpec.callP' (rule_Key_calls x c) (by kernel_rfl)) (by kernel_rfl) rfl (by kernel_rfl) rfl ?_
  refine DK.seg hG 1 [3] (t' := [(3, .sc (.bool (rule_Key x c)))]) (h' := [.box 51 (Rule.ch x)]) (by kernel_rfl) rfl ?_
  refine DK.done (by kernel_rfl) (by kernel_rfl) ?_
  subst H
  exact AR.ret0 (fn := Try.f43) hG Try.func43 (by kernel_rfl) hc0 (r0 := .sc (.bool (rule_Key x c))) (by kernel_rfl) (WkV.refl _)
theorem undo_swap_1_calls (x : Rule) (c : Rule) : ACalls Try.prog tab.S 43 [Rule.av x, .ep [.arr .u64 12 c.Match.Value, .arr .u64 12 c.Match.Care, .sc (.int .i64 c.Prio), .sl 60 (List.map Act.av c.Acts) false, .sc (.int .i64 c.Idle), .sc (.int .i64 c.Hard), .sc (.int .i64 c.Owner), .sc (.int .i64 c.Hits), .sc (.int .i64 c.Quiet), .sc (.int .i64 c.Age)] 0 none] [] (.sc (.bool (undo_swap_1 x c))) [] := undo_swap_1_walk x c _ rfl

/-! ### undo.swap: function 25 -/
noncomputable def undo_swap_F : Go.Sh.Fn := ⟨25, bodyOf Try.f25, 46⟩
def undo_swap_k4 : List Kd := [.pure, .pure, .read]
def undo_swap_k3 : List Kd := [.pure, .pure, .loud, .loud]
def undo_swap_k5 : List Kd := [.pure, .pure, .loud, .loud, .pure, .pure]
def undo_swap_k2 : List Kd := [.pure, .pure, .pure, .pure]
def undo_swap_k1 : List Kd := [.pure, .pure, .pure, .pure, .pure]
def undo_swap_k0 : List Kd := [.pure, .pure, .pure, .pure, .pure, .pure, .pure, .pure, .pure, .pure, .pure, .pure, .pure]
def undo_swap_l0s (list : List Rule) (gone : List Rule) : List Rule → Sum ((List Rule)) ((List Rule) × Int)
  | [] =>
    (.inl (aloneR list gone))
  | x :: rest =>
    (bif (slices_ContainsFunc__api_Rule (aloneR list gone) (fun y0 => undo_swap_1 y0 x)) then
      (.inr ([], 5))
    else
      undo_swap_l0s list gone rest )
theorem undo_swap_l0_walk (list : List Rule) (gone : List Rule) (come : List Rule) (f_list : Bool) (f_gone : Bool) (f_come : Bool) (r : (List Rule) × Int) (c0 : Ctx) (hc0 : c0.m.length = 0) (res : Sum ((List Rule)) ((List Rule) × Int)) (J : ∀ w : (List Rule), res = .inl w → AR Try.prog tab undo_swap_F c0 (Rp tab.S c0 (.tup [.sl 51 (List.map Rule.av r.1) true, .sc (.int .i64 r.2)]) []) [.code [1, 1, 1, 1, 1]] [(2, .sl 51 (List.map Rule.av come) f_come), (8, .sl 51 (List.map Rule.av w) true)] []) (Jr : ∀ w, res = .inr w → w = r) :
    ∀ (rest : List Rule) (t34 : Nat) (hd : come.drop t34 = rest) (H : undo_swap_l0s list gone rest = res), AR Try.prog tab undo_swap_F c0 (Rp tab.S c0 (.tup [.sl 51 (List.map Rule.av r.1) true, .sc (.int .i64 r.2)]) []) [.code [1, 1, 1, 1, 0, 1, 0, 0], .loop [1, 1, 1, 1, 0, 1, 0], .blk 0, .code [1, 1, 1, 1, 1]] [(2, .sl 51 (List.map Rule.av come) f_come), (8, .sl 51 (List.map Rule.av (aloneR list gone)) true), (32, .sl 51 (List.map Rule.av come) f_come), (33, .sc (.int .i64 (((List.map Rule.av come).length : Nat) : Int))), (34, .sc (.int .i64 ((t34 : Nat) : Int)))] [] := by
  have hG := tab_ok
  have hm := mixed
  intro rest
  induction rest with
  | nil =>
    intro t34 hd  H
    rw [undo_swap_l0s] at H
    refine AR.facts 2 rfl fun hf => ?_
    have hlen : come.length ≤ 9223372036854775807 := by have hq := len_ok hf.2.1; rw [List.length_map] at hq; exact hq
    have hge : come.length ≤ t34 := List.drop_eq_nil_iff.1 hd
    have hc : (decide (((t34 : Nat) : Int) < (((List.map Rule.av come).length : Nat) : Int))) = false := by rw [List.length_map]; exact decide_eq_false (by omega)
    refine AR.seg hG hm 3 [2, 8, 32, 33, 34, 35] (k' := [.code [1, 1, 1, 1, 0, 1, 0, 0, 1, 0], .code [1, 1, 1, 1, 0, 1, 0, 0, 1, 1], .loop [1, 1, 1, 1, 0, 1, 0], .blk 0, .code [1, 1, 1, 1, 1]]) (t' := [(2, .sl 51 (List.map Rule.av come) f_come), (8, .sl 51 (List.map Rule.av (aloneR list gone)) true), (32, .sl 51 (List.map Rule.av come) f_come), (33, .sc (.int .i64 (((List.map Rule.av come).length : Nat) : Int))), (34, .sc (.int .i64 ((t34 : Nat) : Int))), (35, .sc (.bool (decide (((t34 : Nat) : Int) < (((List.map Rule.av come).length : Nat) : Int)))))]) (h' := []) (by kernel_rfl) ?_
    refine AR.cond (.tmp 35) (decide (((t34 : Nat) : Int) < (((List.map Rule.av come).length : Nat) : Int))) (by kernel_rfl) (by kernel_rfl) (fun hb => ?ht11) (fun hb => ?hf11)
    case ht11 => exact absurd (hb.symm.trans hc) (by decide)
    case hf11 =>
      refine AR.seg hG hm 1 [2, 8] (k' := [.code [1, 1, 1, 1, 1]]) (t' := [(2, .sl 51 (List.map Rule.av come) f_come), (8, .sl 51 (List.map Rule.av (aloneR list gone)) true)]) (h' := []) (by kernel_rfl) ?_
      refine AR.keep [2, 8] (t' := [(2, .sl 51 (List.map Rule.av come) f_come), (8, .sl 51 (List.map Rule.av (aloneR list gone)) true)]) (by kernel_rfl) ?_
      exact J (aloneR list gone) H.symm
  | cons x rest ih =>
    intro t34 hd  H
    rw [undo_swap_l0s] at H
    refine AR.facts 2 rfl fun hf => ?_
    have hlen : come.length ≤ 9223372036854775807 := by have hq := len_ok hf.2.1; rw [List.length_map] at hq; exact hq
    obtain ⟨hlt, hv_t34, hd2⟩ := drop_cons hd
    have hc : (decide (((t34 : Nat) : Int) < (((List.map Rule.av come).length : Nat) : Int))) = true := by rw [List.length_map]; exact decide_eq_true (by omega)
    have hw : IntKind.i64.wrap (((t34 : Nat) : Int) + 1) = ((t34 + 1 : Nat) : Int) := wrapI_succ (by omega)
    refine AR.seg hG hm 3 [2, 8, 32, 33, 34, 35] (k' := [.code [1, 1, 1, 1, 0, 1, 0, 0, 1, 0], .code [1, 1, 1, 1, 0, 1, 0, 0, 1, 1], .loop [1, 1, 1, 1, 0, 1, 0], .blk 0, .code [1, 1, 1, 1, 1]]) (t' := [(2, .sl 51 (List.map Rule.av come) f_come), (8, .sl 51 (List.map Rule.av (aloneR list gone)) true), (32, .sl 51 (List.map Rule.av come) f_come), (33, .sc (.int .i64 (((List.map Rule.av come).length : Nat) : Int))), (34, .sc (.int .i64 ((t34 : Nat) : Int))), (35, .sc (.bool (decide (((t34 : Nat) : Int) < (((List.map Rule.av come).length : Nat) : Int)))))]) (h' := []) (by kernel_rfl) ?_
    refine AR.cond (.tmp 35) (decide (((t34 : Nat) : Int) < (((List.map Rule.av come).length : Nat) : Int))) (by kernel_rfl) (by kernel_rfl) (fun hb => ?ht12) (fun hb => ?hf12)
    case ht12 =>
      refine AR.seg hG hm 4 [2, 8, 32, 33, 34] (k' := [.code [1, 1, 1, 1, 0, 1, 0, 0, 1, 1, 0, 0, 0], .code [1, 1, 1, 1, 0, 1, 0, 0, 1, 1, 0, 0, 1], .blk 1, .code [1, 1, 1, 1, 0, 1, 0, 0, 1, 1, 1], .loop [1, 1, 1, 1, 0, 1, 0], .blk 0, .code [1, 1, 1, 1, 1]]) (t' := [(2, .sl 51 (List.map Rule.av come) f_come), (8, .sl 51 (List.map Rule.av (aloneR list gone)) true), (32, .sl 51 (List.map Rule.av come) f_come), (33, .sc (.int .i64 (((List.map Rule.av come).length : Nat) : Int))), (34, .sc (.int .i64 ((t34 : Nat) : Int)))]) (h' := []) (by kernel_rfl) ?_
      refine AR.reg hm undo_swap_k3 (by kernel_rfl) ?_
      refine DK.op' [2, 8, 32, 33, 34, 36] (t' := [(2, .sl 51 (List.map Rule.av come) f_come), (8, .sl 51 (List.map Rule.av (aloneR list gone)) true), (32, .sl 51 (List.map Rule.av come) f_come), (33, .sc (.int .i64 (((List.map Rule.av come).length : Nat) : Int))), (34, .sc (.int .i64 ((t34 : Nat) : Int))), (36, .ep [.arr .u64 12 x.Match.Value, .arr .u64 12 x.Match.Care, .sc (.int .i64 x.Prio), .sl 60 (List.map Act.av x.Acts) false, .sc (.int .i64 x.Idle), .sc (.int .i64 x.Hard), .sc (.int .i64 x.Owner), .sc (.int .i64 x.Hits), .sc (.int .i64 x.Quiet), .sc (.int .i64 x.Age)] 0 none)]) (h' := []) (LSpec.index' (r := Rule.av x) (fs := [.arr .u64 12 x.Match.Value, .arr .u64 12 x.Match.Care, .sc (.int .i64 x.Prio), .sl 60 (List.map Act.av x.Acts) false, .sc (.int .i64 x.Idle), .sc (.int .i64 x.Hard), .sc (.int .i64 x.Owner), .sc (.int .i64 x.Hits), .sc (.int .i64 x.Quiet), .sc (.int .i64 x.Age)]) hG (rows := List.map Rule.av come) (j := ((t34 : Nat) : Int)) (by kernel_rfl) (ixO_map hv_t34 _) (by kernel_rfl)) (by kernel_rfl) rfl (by kernel_rfl) rfl ?_
      refine DK.seg hG 3 [2, 8, 10, 32, 33, 34] (t' := [(2, .sl 51 (List.map Rule.av come) f_come), (8, .sl 51 (List.map Rule.av (aloneR list gone)) true), (10, .ptr 0 0 none), (32, .sl 51 (List.map Rule.av come) f_come), (33, .sc (.int .i64 (((List.map Rule.av come).length : Nat) : Int))), (34, .sc (.int .i64 ((t34 : Nat) : Int)))]) (h' := [.box 51 (Rule.ch x)]) (by kernel_rfl) rfl ?_
      refine DK.done (by kernel_rfl) (by kernel_rfl) ?_
      refine AR.seg hG hm 1 [2, 8, 10, 32, 33, 34] (k' := [.code [1, 1, 1, 1, 0, 1, 0, 0, 1, 1, 0, 0, 1, 0], .code [1, 1, 1, 1, 0, 1, 0, 0, 1, 1, 0, 0, 1, 1], .blk 1, .code [1, 1, 1, 1, 0, 1, 0, 0, 1, 1, 1], .loop [1, 1, 1, 1, 0, 1, 0], .blk 0, .code [1, 1, 1, 1, 1]]) (t' := [(2, .sl 51 (List.map Rule.av come) f_come), (8, .sl 51 (List.map Rule.av (aloneR list gone)) true), (10, .ptr 0 0 none), (32, .sl 51 (List.map Rule.av come) f_come), (33, .sc (.int .i64 (((List.map Rule.av come).length : Nat) : Int))), (34, .sc (.int .i64 ((t34 : Nat) : Int)))]) (h' := [.box 51 (Rule.ch x)]) (by kernel_rfl) ?_
      refine AR.reg hm undo_swap_k4 (by kernel_rfl) ?_
      refine DK.seg hG 2 [2, 8, 32, 33, 34, 38, 39] (t' := [(2, .sl 51 (List.map Rule.av come) f_come), (8, .sl 51 (List.map Rule.av (aloneR list gone)) true), (32, .sl 51 (List.map Rule.av come) f_come), (33, .sc (.int .i64 (((List.map Rule.av come).length : Nat) : Int))), (34, .sc (.int .i64 ((t34 : Nat) : Int))), (38, .sl 51 (List.map Rule.av (aloneR list gone)) true), (39, .fn 43 [.ptr 0 0 none])]) (h' := [.box 51 (Rule.ch x)]) (by kernel_rfl) rfl ?_
      refine DK.op' [2, 8, 32, 33, 34, 40] (t' := [(2, .sl 51 (List.map Rule.av come) f_come), (8, .sl 51 (List.map Rule.av (aloneR list gone)) true), (32, .sl 51 (List.map Rule.av come) f_come), (33, .sc (.int .i64 (((List.map Rule.av come).length : Nat) : Int))), (34, .sc (.int .i64 ((t34 : Nat) : Int))), (40, .sc (.bool (slices_ContainsFunc__api_Rule (aloneR list gone) (fun y0 => undo_swap_1 y0 x))))]) (h' := [.box 51 (Rule.ch x)]) (LSpec.callF' (caps := []) (slices_ContainsFunc__api_Rule_calls (aloneR list gone) 43 [.ep [.arr .u64 12 x.Match.Value, .arr .u64 12 x.Match.Care, .sc (.int .i64 x.Prio), .sl 60 (List.map Act.av x.Acts) false, .sc (.int .i64 x.Idle), .sc (.int .i64 x.Hard), .sc (.int .i64 x.Owner), .sc (.int .i64 x.Hits), .sc (.int .i64 x.Quiet), .sc (.int .i64 x.Age)] 0 none] (fun y0 => undo_swap_1 y0 x) rfl rfl (fun y0 => undo_swap_1_calls y0 x) true) (by kernel_rfl) (.same rfl (.fn (caps := [.ptr 0 0 none]) (by kernel_rfl) .nil)) (by kernel_rfl) rfl rfl) (by kernel_rfl) rfl (by kernel_rfl) rfl ?_
      refine DK.done (by kernel_rfl) (by kernel_rfl) ?_
      refine AR.cond (.tmp 40) (slices_ContainsFunc__api_Rule (aloneR list gone) (fun y0 => undo_swap_1 y0 x)) (by kernel_rfl) (by kernel_rfl) (fun hb => ?ht13) (fun hb => ?hf13)
      case ht13 =>
        replace H := cond_t hb H
        refine AR.seg hG hm 2 [6, 7] (k' := [.code [1, 1, 1, 1, 0, 1, 0, 0, 1, 1, 0, 0, 1, 1, 0, 1], .blk 1, .code [1, 1, 1, 1, 0, 1, 0, 0, 1, 1, 1], .loop [1, 1, 1, 1, 0, 1, 0], .blk 0, .code [1, 1, 1, 1, 1]]) (t' := [(6, .sl 0 [] true), (7, .sc (.int .i64 5))]) (h' := [.box 51 (Rule.ch x)]) (by kernel_rfl) ?_
        subst H
        obtain rfl := Jr _ rfl
        exact AR.ret0 (fn := Try.f25) hG Try.func25 (by kernel_rfl) hc0 (r0 := .tup [.sl 0 [] true, .sc (.int .i64 5)]) (by kernel_rfl) (WkV.tup (Wks.cons (WkV.sl (Wk1.nil 51 true)) trivial trivial (Wks.cons (WkV.refl _) trivial trivial Wks.nil)))
      case hf13 =>
        replace H := cond_f hb H
        refine AR.seg hG hm 3 [2, 8, 32, 33, 34] (k' := [.loop [1, 1, 1, 1, 0, 1, 0], .blk 0, .code [1, 1, 1, 1, 1]]) (t' := [(2, .sl 51 (List.map Rule.av come) f_come), (8, .sl 51 (List.map Rule.av (aloneR list gone)) true), (32, .sl 51 (List.map Rule.av come) f_come), (33, .sc (.int .i64 (((List.map Rule.av come).length : Nat) : Int))), (34, .sc (.int .i64 (IntKind.i64.wrap (((t34 : Nat) : Int) + 1))))]) (h' := [.box 51 (Rule.ch x)]) (by kernel_rfl) ?_
        refine AR.keep [2, 8, 32, 33, 34] (t' := [(2, .sl 51 (List.map Rule.av come) f_come), (8, .sl 51 (List.map Rule.av (aloneR list gone)) true), (32, .sl 51 (List.map Rule.av come) f_come), (33, .sc (.int .i64 (((List.map Rule.av come).length : Nat) : Int))), (34, .sc (.int .i64 (IntKind.i64.wrap (((t34 : Nat) : Int) + 1))))]) (by kernel_rfl) ?_
        refine AR.drop' 0 hc0 (t' := [(2, .sl 51 (List.map Rule.av come) f_come), (8, .sl 51 (List.map Rule.av (aloneR list gone)) true), (32, .sl 51 (List.map Rule.av come) f_come), (33, .sc (.int .i64 (((List.map Rule.av come).length : Nat) : Int))), (34, .sc (.int .i64 (IntKind.i64.wrap (((t34 : Nat) : Int) + 1))))]) (h' := []) (by kernel_rfl) ?_
        refine AR.loop_round ?_
        rw [hw]
        exact ih (t34 + 1) hd2 H
    case hf12 => exact absurd (hc.symm.trans hb) (by decide)

def undo_swap_raw (list : List Rule) (gone : List Rule) (come : List Rule) : Option ((List Rule) × Int) :=
  (bif (((!(tableR list)) || (!(tableR gone))) || (!(tableR come))) then
    some ([], 2)
  else
    (bif (decide ((((List.map Rule.av (aloneR gone list)).length : Nat) : Int) > 0)) then
      some ([], 4)
    else
      sumG (fun q => some q) (undo_swap_l0s list gone come) fun v =>
      fitO (v.length + come.length) 272 (
      some ((sortR (v ++ come)), 0))))
theorem undo_swap_walk (list : List Rule) (gone : List Rule) (come : List Rule) (f_list : Bool) (f_gone : Bool) (f_come : Bool) (r : (List Rule) × Int) (H : undo_swap_raw list gone come = some r) :
    ACalls Try.prog tab.S 25 [.sl 51 (List.map Rule.av list) f_list, .sl 51 (List.map Rule.av gone) f_gone, .sl 51 (List.map Rule.av come) f_come] [] (.tup [.sl 51 (List.map Rule.av r.1) true, .sc (.int .i64 r.2)]) [] := by
  have hG := tab_ok
  have hm := mixed
  refine ACalls.of_AR (G := tab) undo_swap_F (fn := Try.f25) Try.func25 (by kernel_rfl) (by kernel_rfl) (by kernel_rfl) (Nat.le_of_ble_eq_true (by kernel_rfl)) ?_
  intro c0 hc0
  replace hc0 : c0.m.length = 0 := hc0
  rw [undo_swap_raw] at H
  refine AR.seg hG hm 4 [0, 1, 2] (k' := [.code [1, 0, 0], .code [1, 0, 1], .code [1, 1]]) (t' := [(0, .sl 51 (List.map Rule.av list) f_list), (1, .sl 51 (List.map Rule.av gone) f_gone), (2, .sl 51 (List.map Rule.av come) f_come)]) (h' := []) (by kernel_rfl) ?_
  refine AR.reg hm undo_swap_k0 (by kernel_rfl) ?_
  refine DK.seg hG 1 [0, 1, 2, 11] (t' := [(0, .sl 51 (List.map Rule.av list) f_list), (1, .sl 51 (List.map Rule.av gone) f_gone), (2, .sl 51 (List.map Rule.av come) f_come), (11, .sl 51 (List.map Rule.av list) f_list)]) (h' := []) (by kernel_rfl) rfl ?_
  refine DK.op' [0, 1, 2, 12] (t' := [(0, .sl 51 (List.map Rule.av list) f_list), (1, .sl 51 (List.map Rule.av gone) f_gone), (2, .sl 51 (List.map Rule.av come) f_come), (12, .sc (.bool (tableR list)))]) (h' := []) (LSpec.callP' (rule_Table_ok list f_list) (by kernel_rfl)) (by kernel_rfl) rfl (by kernel_rfl) rfl ?_
  refine DK.seg hG 2 [0, 1, 2, 14] (t' := [(0, .sl 51 (List.map Rule.av list) f_list), (1, .sl 51 (List.map Rule.av gone) f_gone), (2, .sl 51 (List.map Rule.av come) f_come), (14, .sc (.bool (!(tableR list))))]) (h' := []) (by kernel_rfl) rfl ?_
  refine DK.mux 14 (!(tableR list)) (j := 8) (h' := []) (by kernel_rfl) (fun z => [(0, .sl 51 (List.map Rule.av list) f_list), (1, .sl 51 (List.map Rule.av gone) f_gone), (2, .sl 51 (List.map Rule.av come) f_come), (18, .sc (.bool (z || (!(tableR gone)))))]) ?J1 (fun hb J => ?ht1) (fun hb J => ?hf1)
  case ht1 =>
    exact DK.seg hG 4 [0, 1, 2, 18] (by kernel_rfl) rfl J
  case hf1 =>
    refine DK.seg hG 1 [0, 1, 2, 14, 15] (t' := [(0, .sl 51 (List.map Rule.av list) f_list), (1, .sl 51 (List.map Rule.av gone) f_gone), (2, .sl 51 (List.map Rule.av come) f_come), (14, .sc (.bool false)), (15, .sl 51 (List.map Rule.av gone) f_gone)]) (h' := []) (by kernel_rfl) rfl ?_
    refine DK.op' [0, 1, 2, 14, 16] (t' := [(0, .sl 51 (List.map Rule.av list) f_list), (1, .sl 51 (List.map Rule.av gone) f_gone), (2, .sl 51 (List.map Rule.av come) f_come), (14, .sc (.bool false)), (16, .sc (.bool (tableR gone)))]) (h' := []) (LSpec.callP' (rule_Table_ok gone f_gone) (by kernel_rfl)) (by kernel_rfl) rfl (by kernel_rfl) rfl ?_
    exact DK.seg hG 2 [0, 1, 2, 18] (by kernel_rfl) rfl J
  refine DK.seg hG 1 [0, 1, 2, 19] (t' := [(0, .sl 51 (List.map Rule.av list) f_list), (1, .sl 51 (List.map Rule.av gone) f_gone), (2, .sl 51 (List.map Rule.av come) f_come), (19, .sc (.bool ((!(tableR list)) || (!(tableR gone)))))]) (h' := []) (by kernel_rfl) rfl ?_
  refine DK.mux 19 ((!(tableR list)) || (!(tableR gone))) (j := 13) (h' := []) (by kernel_rfl) (fun z => [(0, .sl 51 (List.map Rule.av list) f_list), (1, .sl 51 (List.map Rule.av gone) f_gone), (2, .sl 51 (List.map Rule.av come) f_come), (23, .sc (.bool (z || (!(tableR come)))))]) ?J2 (fun hb J => ?ht2) (fun hb J => ?hf2)
  case ht2 =>
    exact DK.seg hG 4 [0, 1, 2, 23] (by kernel_rfl) rfl J
  case hf2 =>
    refine DK.seg hG 1 [0, 1, 2, 19, 20] (t' := [(0, .sl 51 (List.map Rule.av list) f_list), (1, .sl 51 (List.map Rule.av gone) f_gone), (2, .sl 51 (List.map Rule.av come) f_come), (19, .sc (.bool false)), (20, .sl 51 (List.map Rule.av come) f_come)]) (h' := []) (by kernel_rfl) rfl ?_
    refine DK.op' [0, 1, 2, 19, 21] (t' := [(0, .sl 51 (List.map Rule.av list) f_list), (1, .sl 51 (List.map Rule.av gone) f_gone), (2, .sl 51 (List.map Rule.av come) f_come), (19, .sc (.bool false)), (21, .sc (.bool (tableR come)))]) (h' := []) (LSpec.callP' (rule_Table_ok come f_come) (by kernel_rfl)) (by kernel_rfl) rfl (by kernel_rfl) rfl ?_
    exact DK.seg hG 2 [0, 1, 2, 23] (by kernel_rfl) rfl J
  refine DK.done (by kernel_rfl) (by kernel_rfl) ?_
  refine AR.cond (.tmp 23) (((!(tableR list)) || (!(tableR gone))) || (!(tableR come))) (by kernel_rfl) (by kernel_rfl) (fun hb => ?ht3) (fun hb => ?hf3)
  case ht3 =>
    replace H := cond_t hb H
    refine AR.seg hG hm 2 [6, 7] (k' := [.code [1, 0, 1, 0, 1], .code [1, 1]]) (t' := [(6, .sl 0 [] true), (7, .sc (.int .i64 2))]) (h' := []) (by kernel_rfl) ?_
    obtain rfl := Option.some.inj H
    exact AR.ret0 (fn := Try.f25) hG Try.func25 (by kernel_rfl) hc0 (r0 := .tup [.sl 0 [] true, .sc (.int .i64 2)]) (by kernel_rfl) (WkV.tup (Wks.cons (WkV.sl (Wk1.nil 51 true)) trivial trivial (Wks.cons (WkV.refl _) trivial trivial Wks.nil)))
  case hf3 =>
    replace H := cond_f hb H
    refine AR.seg hG hm 3 [0, 1, 2] (k' := [.code [1, 1, 0, 0], .code [1, 1, 0, 1], .code [1, 1, 1]]) (t' := [(0, .sl 51 (List.map Rule.av list) f_list), (1, .sl 51 (List.map Rule.av gone) f_gone), (2, .sl 51 (List.map Rule.av come) f_come)]) (h' := []) (by kernel_rfl) ?_
    refine AR.reg hm undo_swap_k1 (by kernel_rfl) ?_
    refine DK.seg hG 2 [0, 1, 2, 24, 25] (t' := [(0, .sl 51 (List.map Rule.av list) f_list), (1, .sl 51 (List.map Rule.av gone) f_gone), (2, .sl 51 (List.map Rule.av come) f_come), (24, .sl 51 (List.map Rule.av gone) f_gone), (25, .sl 51 (List.map Rule.av list) f_list)]) (h' := []) (by kernel_rfl) rfl ?_
    refine DK.op' [0, 1, 2, 26] (t' := [(0, .sl 51 (List.map Rule.av list) f_list), (1, .sl 51 (List.map Rule.av gone) f_gone), (2, .sl 51 (List.map Rule.av come) f_come), (26, .sl 51 (List.map Rule.av (aloneR gone list)) true)]) (h' := []) (LSpec.callP' (undo_alone_ok gone list f_gone f_list) (by kernel_rfl)) (by kernel_rfl) rfl (by kernel_rfl) rfl ?_
    refine DK.seg hG 2 [0, 1, 2, 28] (t' := [(0, .sl 51 (List.map Rule.av list) f_list), (1, .sl 51 (List.map Rule.av gone) f_gone), (2, .sl 51 (List.map Rule.av come) f_come), (28, .sc (.bool (decide ((((List.map Rule.av (aloneR gone list)).length : Nat) : Int) > 0))))]) (h' := []) (by kernel_rfl) rfl ?_
    refine DK.done (by kernel_rfl) (by kernel_rfl) ?_
    refine AR.cond (.tmp 28) (decide ((((List.map Rule.av (aloneR gone list)).length : Nat) : Int) > 0)) (by kernel_rfl) (by kernel_rfl) (fun hb => ?ht4) (fun hb => ?hf4)
    case ht4 =>
      replace H := cond_t hb H
      refine AR.seg hG hm 2 [6, 7] (k' := [.code [1, 1, 0, 1, 0, 1], .code [1, 1, 1]]) (t' := [(6, .sl 0 [] true), (7, .sc (.int .i64 4))]) (h' := []) (by kernel_rfl) ?_
      obtain rfl := Option.some.inj H
      exact AR.ret0 (fn := Try.f25) hG Try.func25 (by kernel_rfl) hc0 (r0 := .tup [.sl 0 [] true, .sc (.int .i64 4)]) (by kernel_rfl) (WkV.tup (Wks.cons (WkV.sl (Wk1.nil 51 true)) trivial trivial (Wks.cons (WkV.refl _) trivial trivial Wks.nil)))
    case hf4 =>
      replace H := cond_f hb H
      refine AR.seg hG hm 2 [0, 1, 2] (k' := [.code [1, 1, 1, 0], .code [1, 1, 1, 1]]) (t' := [(0, .sl 51 (List.map Rule.av list) f_list), (1, .sl 51 (List.map Rule.av gone) f_gone), (2, .sl 51 (List.map Rule.av come) f_come)]) (h' := []) (by kernel_rfl) ?_
      refine AR.reg hm undo_swap_k2 (by kernel_rfl) ?_
      refine DK.seg hG 2 [2, 29, 30] (t' := [(2, .sl 51 (List.map Rule.av come) f_come), (29, .sl 51 (List.map Rule.av list) f_list), (30, .sl 51 (List.map Rule.av gone) f_gone)]) (h' := []) (by kernel_rfl) rfl ?_
      refine DK.op' [2, 31] (t' := [(2, .sl 51 (List.map Rule.av come) f_come), (31, .sl 51 (List.map Rule.av (aloneR list gone)) true)]) (h' := []) (LSpec.callP' (undo_alone_ok list gone f_list f_gone) (by kernel_rfl)) (by kernel_rfl) rfl (by kernel_rfl) rfl ?_
      refine DK.seg hG 1 [2, 8] (t' := [(2, .sl 51 (List.map Rule.av come) f_come), (8, .sl 51 (List.map Rule.av (aloneR list gone)) true)]) (h' := []) (by kernel_rfl) rfl ?_
      refine DK.done (by kernel_rfl) (by kernel_rfl) ?_
      refine AR.seg hG hm 4 [2, 8, 32, 33, 34] (k' := [.code [1, 1, 1, 1, 0, 1, 0], .blk 0, .code [1, 1, 1, 1, 1]]) (t' := [(2, .sl 51 (List.map Rule.av come) f_come), (8, .sl 51 (List.map Rule.av (aloneR list gone)) true), (32, .sl 51 (List.map Rule.av come) f_come), (33, .sc (.int .i64 (((List.map Rule.av come).length : Nat) : Int))), (34, .sc (.int .i64 0))]) (h' := []) (by kernel_rfl) ?_
      rcases sumG_eq H with ⟨v, hv, H⟩ | ⟨r1, hv, hr1⟩
      case inr =>
        refine AR.into (by kernel_rfl) ?_
        obtain rfl := Option.some.inj hr1
        exact undo_swap_l0_walk list gone come f_list f_gone f_come _ c0 hc0 (.inr _) (fun _ e => by cases e) (fun _ e => (Sum.inr.inj e).symm) come 0 rfl hv
      refine AR.into (by kernel_rfl) ?_
      refine undo_swap_l0_walk list gone come f_list f_gone f_come r c0 hc0 (.inl v) (fun w e => ?_) (fun _ e => by cases e) come 0 rfl hv
      have e := Sum.inl.inj e
      subst e
      refine AR.seg hG hm 1 [2, 8] (k' := [.code [1, 1, 1, 1, 1, 0], .code [1, 1, 1, 1, 1, 1]]) (t' := [(2, .sl 51 (List.map Rule.av come) f_come), (8, .sl 51 (List.map Rule.av v) true)]) (h' := []) (by kernel_rfl) ?_
      refine AR.reg hm undo_swap_k5 (by kernel_rfl) ?_
      refine DK.seg hG 2 [42, 43] (t' := [(42, .sl 51 (List.map Rule.av v) true), (43, .sl 51 (List.map Rule.av come) f_come)]) (h' := []) (by kernel_rfl) rfl ?_
      obtain ⟨hfit, H⟩ := fitO_some H
      refine DK.op' [44] (t' := [(44, .own 0 1)]) (h' := [.row 51 (List.map Rule.av (v ++ come)) 1 true]) (LSpec.appendN hG Rule.av v come 51 272 hfit (by kernel_rfl)) (by kernel_rfl) (by kernel_rfl) (by kernel_rfl) rfl ?_
      refine DK.op' [45] (t' := [(45, .sl 51 (List.map Rule.av (sortR (v ++ come))) true)]) (h' := [.row 51 (List.map Rule.av (v ++ come)) 1 false]) (LSpec.callC' [0] (rule_Sort_ok (v ++ come) false) (by kernel_rfl) (by kernel_rfl)) (by kernel_rfl) (by kernel_rfl) (by kernel_rfl) rfl ?_
      refine DK.seg hG 2 [6, 7] (t' := [(6, .sl 51 (List.map Rule.av (sortR (v ++ come))) true), (7, .sc (.int .i64 0))]) (h' := [.row 51 (List.map Rule.av (v ++ come)) 1 false]) (by kernel_rfl) rfl ?_
      refine DK.done (by kernel_rfl) (by kernel_rfl) ?_
      obtain rfl := Option.some.inj H
      exact AR.ret0 (fn := Try.f25) hG Try.func25 (by kernel_rfl) hc0 (r0 := .tup [.sl 51 (List.map Rule.av (sortR (v ++ come))) true, .sc (.int .i64 0)]) (by kernel_rfl) (WkV.refl _)

end Go.Proofs.Ytlfiemphadkimaa

set_option linter.unusedVariables false
set_option linter.unusedSimpArgs false
set_option maxRecDepth 100000
set_option maxHeartbeats 4000000
namespace Go.Proofs.Ytlfiemphadkimaa
open Go.Sh
def swapM (list gone come : List Rule) : List Rule × Int :=
  bif ((!(tableR list)) || (!(tableR gone))) || (!(tableR come)) then ([], 2) else
  bif decide ((aloneR gone list).length > 0) then ([], 4) else
  if come.any (fun x => (aloneR list gone).any (fun y => rule_Key y x)) then ([], 5) else (sortR (aloneR list gone ++ come), 0)
def swapO (list gone come : List Rule) : Option (List Rule × Int) := if list.length + come.length ≤ 1000000 then some (swapM list gone come) else none
theorem aloneR_len (a b : List Rule) : (aloneR a b).length ≤ a.length := List.length_filter_le _ _
theorem undo_swap_l0s_eq (list gone : List Rule) : ∀ l, undo_swap_l0s list gone l = if l.any (fun x => (aloneR list gone).any (fun y => rule_Key y x)) then .inr ([], 5) else .inl (aloneR list gone)
  | [] => by rw [undo_swap_l0s]; rfl
  | x :: l => by
      have e : slices_ContainsFunc__api_Rule (aloneR list gone) (fun y0 => undo_swap_1 y0 x) = (aloneR list gone).any (fun y => rule_Key y x) := by
        rw [slices_ContainsFunc__api_Rule_any]; rfl
      rw [undo_swap_l0s, e, undo_swap_l0s_eq list gone l, List.any_cons]
      cases (aloneR list gone).any (fun y => rule_Key y x) <;> rfl
theorem undo_swap_eq (list gone come : List Rule) (h : list.length + come.length ≤ 1000000) : undo_swap_raw list gone come = some (swapM list gone come) := by
  rw [undo_swap_raw, undo_swap_l0s_eq, List.length_map]
  unfold swapM
  have e : decide ((((aloneR gone list).length : Nat) : Int) > 0) = decide ((aloneR gone list).length > 0) := by
    rw [Bool.eq_iff_iff, decide_eq_true_eq, decide_eq_true_eq]; omega
  rw [e]
  cases ((!(tableR list)) || (!(tableR gone))) || (!(tableR come))
  · cases decide ((aloneR gone list).length > 0)
    · simp only [cond_false]
      have hl := aloneR_len list gone
      by_cases hc : come.any (fun x => (aloneR list gone).any (fun y => rule_Key y x)) = true
      · rw [if_pos hc, if_pos hc]; rfl
      · rw [if_neg hc, if_neg hc]
        show fitO _ _ _ = _
        rw [fitO_eq (by omega)]
    · rfl
  · rfl
theorem undo_swap_ok (list gone come : List Rule) (f g k : Bool) (x : List Rule × Int) (h : swapO list gone come = some x) : ACalls Try.prog tab.S 25 [.sl 51 (List.map Rule.av list) f, .sl 51 (List.map Rule.av gone) g, .sl 51 (List.map Rule.av come) k] [] (.tup [.sl 51 (List.map Rule.av x.1) true, .sc (.int .i64 x.2)]) [] := by
  unfold swapO at h
  split at h
  · rename_i hl
    exact undo_swap_walk list gone come f g k x ((undo_swap_eq list gone come hl).trans h)
  · cases h

end Go.Proofs.Ytlfiemphadkimaa

set_option linter.unusedVariables false
set_option linter.unusedSimpArgs false
set_option maxRecDepth 100000
set_option maxHeartbeats 4000000
namespace Go.Proofs.Ytlfiemphadkimaa
open Go.Sh
/-! ### undo.Back: function 12 -/
noncomputable def undo_Back_F : Go.Sh.Fn := ⟨12, bodyOf Try.f12, 14⟩
def undo_Back_k0 : List Kd := [.pure, .pure, .read, .pure, .read, .pure, .pure, .pure, .pure, .pure]
def undo_Back_raw (after : List Rule) (p : Patch) : Option ((List Rule) × Int) :=
  (swapO after p.New p.Gone).bind fun x =>
  some (x.1, x.2)
theorem undo_Back_walk (after : List Rule) (p : Patch) (f_after : Bool) (r : (List Rule) × Int) (H : undo_Back_raw after p = some r) :
    ACalls Try.prog tab.S 12 [.sl 51 (List.map Rule.av after) f_after, Patch.av p] [] (.tup [.sl 51 (List.map Rule.av r.1) true, .sc (.int .i64 r.2)]) [] := by
  have hG := tab_ok
  have hm := mixed
  refine ACalls.of_AR (G := tab) undo_Back_F (fn := Try.f12) Try.func12 (by kernel_rfl) (by kernel_rfl) (by kernel_rfl) (Nat.le_of_ble_eq_true (by kernel_rfl)) ?_
  intro c0 hc0
  replace hc0 : c0.m.length = 0 := hc0
  rw [undo_Back_raw] at H
  refine AR.seg hG hm 3 [0, 3] (k' := [.code [1, 0], .code [1, 1]]) (t' := [(0, .sl 51 (List.map Rule.av after) f_after), (3, .ptr 0 0 none)]) (h' := [.box 35 (Patch.ch p)]) (by kernel_rfl) ?_
  refine AR.reg hm undo_Back_k0 (by kernel_rfl) ?_
  refine DK.seg hG 5 [6, 8, 10] (t' := [(6, .sl 51 (List.map Rule.av after) f_after), (8, .sl 51 (List.map Rule.av p.New) false), (10, .sl 51 (List.map Rule.av p.Gone) false)]) (h' := [.box 35 (Patch.ch p)]) (by kernel_rfl) rfl ?_
  obtain ⟨x, hv, H⟩ := Option.bind_eq_some_iff.1 H
  refine DK.op' [11] (t' := [(11, .tup [.sl 51 (List.map Rule.av x.1) true, .sc (.int .i64 x.2)])]) (h' := [.box 35 (Patch.ch p)]) (LSpec.callP' (undo_swap_ok after p.New p.Gone f_after false false x hv) (by kernel_rfl)) (by kernel_rfl) rfl (by kernel_rfl) rfl ?_
  refine DK.seg hG 4 [4, 5] (t' := [(4, .sl 51 (List.map Rule.av x.1) true), (5, .sc (.int .i64 x.2))]) (h' := [.box 35 (Patch.ch p)]) (by kernel_rfl) rfl ?_
  refine DK.done (by kernel_rfl) (by kernel_rfl) ?_
  obtain rfl := Option.some.inj H
  exact AR.ret0 (fn := Try.f12) hG Try.func12 (by kernel_rfl) hc0 (r0 := .tup [.sl 51 (List.map Rule.av x.1) true, .sc (.int .i64 x.2)]) (by kernel_rfl) (WkV.refl _)

/-! ### undo.Forth: function 15 -/
noncomputable def undo_Forth_F : Go.Sh.Fn := ⟨15, bodyOf Try.f15, 14⟩
def undo_Forth_k0 : List Kd := [.pure, .pure, .read, .pure, .read, .pure, .pure, .pure, .pure, .pure]
def undo_Forth_raw (before : List Rule) (p : Patch) : Option ((List Rule) × Int) :=
  (swapO before p.Gone p.New).bind fun x =>
  some (x.1, x.2)
theorem undo_Forth_walk (before : List Rule) (p : Patch) (f_before : Bool) (r : (List Rule) × Int) (H : undo_Forth_raw before p = some r) :
    ACalls Try.prog tab.S 15 [.sl 51 (List.map Rule.av before) f_before, Patch.av p] [] (.tup [.sl 51 (List.map Rule.av r.1) true, .sc (.int .i64 r.2)]) [] := by
  have hG := tab_ok
  have hm := mixed
  refine ACalls.of_AR (G := tab) undo_Forth_F (fn := Try.f15) Try.func15 (by kernel_rfl) (by kernel_rfl) (by kernel_rfl) (Nat.le_of_ble_eq_true (by kernel_rfl)) ?_
  intro c0 hc0
  replace hc0 : c0.m.length = 0 := hc0
  rw [undo_Forth_raw] at H
  refine AR.seg hG hm 3 [0, 3] (k' := [.code [1, 0], .code [1, 1]]) (t' := [(0, .sl 51 (List.map Rule.av before) f_before), (3, .ptr 0 0 none)]) (h' := [.box 35 (Patch.ch p)]) (by kernel_rfl) ?_
  refine AR.reg hm undo_Forth_k0 (by kernel_rfl) ?_
  refine DK.seg hG 5 [6, 8, 10] (t' := [(6, .sl 51 (List.map Rule.av before) f_before), (8, .sl 51 (List.map Rule.av p.Gone) false), (10, .sl 51 (List.map Rule.av p.New) false)]) (h' := [.box 35 (Patch.ch p)]) (by kernel_rfl) rfl ?_
  obtain ⟨x, hv, H⟩ := Option.bind_eq_some_iff.1 H
  refine DK.op' [11] (t' := [(11, .tup [.sl 51 (List.map Rule.av x.1) true, .sc (.int .i64 x.2)])]) (h' := [.box 35 (Patch.ch p)]) (LSpec.callP' (undo_swap_ok before p.Gone p.New f_before false false x hv) (by kernel_rfl)) (by kernel_rfl) rfl (by kernel_rfl) rfl ?_
  refine DK.seg hG 4 [4, 5] (t' := [(4, .sl 51 (List.map Rule.av x.1) true), (5, .sc (.int .i64 x.2))]) (h' := [.box 35 (Patch.ch p)]) (by kernel_rfl) rfl ?_
  refine DK.done (by kernel_rfl) (by kernel_rfl) ?_
  obtain rfl := Option.some.inj H
  exact AR.ret0 (fn := Try.f15) hG Try.func15 (by kernel_rfl) hc0 (r0 := .tup [.sl 51 (List.map Rule.av x.1) true, .sc (.int .i64 x.2)]) (by kernel_rfl) (WkV.refl _)

/-! ### undo.Inverse: function 9 -/
noncomputable def undo_Inverse_F : Go.Sh.Fn := ⟨9, bodyOf Try.f9, 26⟩
def undo_Inverse_k1 : List Kd := [.pure, .pure, .pure, .pure, .pure, .loud, .pure]
def undo_Inverse_k0 : List Kd := [.pure, .read, .pure, .pure, .pure, .pure, .pure, .pure, .pure]
def undo_Inverse_raw (list : List Rule) (m1 : Mod) (room : Int) : Option ((List Rule) × Patch × Int) :=
  (applyO list m1 room).bind fun x =>
  (bif (x.2 != 0) then
    some ([], ({ Gone := [], New := [] } : Patch), x.2)
  else
    some (x.1, (undo_Diff list x.1), 0))
theorem undo_Inverse_walk (list : List Rule) (m1 : Mod) (room : Int) (f_list : Bool) (r : (List Rule) × Patch × Int) (H : undo_Inverse_raw list m1 room = some r) :
    ACalls Try.prog tab.S 9 [.sl 51 (List.map Rule.av list) f_list, Mod.av m1, .sc (.int .i64 room)] [] (.tup [.sl 51 (List.map Rule.av r.1) false, Patch.av r.2.1, .sc (.int .i64 r.2.2)]) [] := by
  have hG := tab_ok
  have hm := mixed
  refine ACalls.of_AR (G := tab) undo_Inverse_F (fn := Try.f9) Try.func9 (by kernel_rfl) (by kernel_rfl) (by kernel_rfl) (Nat.le_of_ble_eq_true (by kernel_rfl)) ?_
  intro c0 hc0
  replace hc0 : c0.m.length = 0 := hc0
  rw [undo_Inverse_raw] at H
  refine AR.seg hG hm 3 [0, 2, 4, 7] (k' := [.code [1, 0], .code [1, 1]]) (t' := [(0, .sl 51 (List.map Rule.av list) f_list), (2, .sc (.int .i64 room)), (4, .ptr 0 0 none), (7, .ptr 1 0 none)]) (h' := [.box 33 (Mod.ch m1), .box 35 [.sl 0 [] true, .sl 0 [] true]]) (by kernel_rfl) ?_
  refine AR.reg hm undo_Inverse_k0 (by kernel_rfl) ?_
  refine DK.seg hG 3 [0, 7, 12, 13, 14] (t' := [(0, .sl 51 (List.map Rule.av list) f_list), (7, .ptr 1 0 none), (12, .sl 51 (List.map Rule.av list) f_list), (13, Mod.av m1), (14, .sc (.int .i64 room))]) (h' := [.box 33 (Mod.ch m1), .box 35 [.sl 0 [] true, .sl 0 [] true]]) (by kernel_rfl) rfl ?_
  obtain ⟨x, hv, H⟩ := Option.bind_eq_some_iff.1 H
  refine DK.op' [0, 7, 15] (t' := [(0, .sl 51 (List.map Rule.av list) f_list), (7, .ptr 1 0 none), (15, .tup [.sl 51 (List.map Rule.av x.1) false, .sc (.int .i64 x.2)])]) (h' := [.box 33 (Mod.ch m1), .box 35 [.sl 0 [] true, .sl 0 [] true]]) (LSpec.callP' (mods_Apply_ok list m1 room f_list x hv) (by kernel_rfl)) (by kernel_rfl) rfl (by kernel_rfl) rfl ?_
  refine DK.seg hG 5 [0, 7, 9, 10] (t' := [(0, .sl 51 (List.map Rule.av list) f_list), (7, .ptr 1 0 none), (9, .sl 51 (List.map Rule.av x.1) false), (10, .sc (.int .i64 x.2))]) (h' := [.box 33 (Mod.ch m1), .box 35 [.sl 0 [] true, .sl 0 [] true]]) (by kernel_rfl) rfl ?_
  refine DK.done (by kernel_rfl) (by kernel_rfl) ?_
  refine AR.seg hG hm 3 [0, 7, 9, 10, 19] (k' := [.code [1, 1, 0, 1], .code [1, 1, 1]]) (t' := [(0, .sl 51 (List.map Rule.av list) f_list), (7, .ptr 1 0 none), (9, .sl 51 (List.map Rule.av x.1) false), (10, .sc (.int .i64 x.2)), (19, .sc (.bool (x.2 != 0)))]) (h' := [.box 33 (Mod.ch m1), .box 35 [.sl 0 [] true, .sl 0 [] true]]) (by kernel_rfl) ?_
  refine AR.cond (.tmp 19) (x.2 != 0) (by kernel_rfl) (by kernel_rfl) (fun hb => ?ht1) (fun hb => ?hf1)
  case ht1 =>
    replace H := cond_t hb H
    refine AR.seg hG hm 2 [6, 7, 8] (k' := [.code [1, 1, 0, 1, 0, 1], .code [1, 1, 1]]) (t' := [(6, .sl 0 [] true), (7, .ptr 1 0 none), (8, .sc (.int .i64 x.2))]) (h' := [.box 33 (Mod.ch m1), .box 35 [.sl 0 [] true, .sl 0 [] true]]) (by kernel_rfl) ?_
    obtain rfl := Option.some.inj H
    exact AR.ret0 (fn := Try.f9) hG Try.func9 (by kernel_rfl) hc0 (r0 := .tup [.sl 0 [] true, .agg [.sl 0 [] true, .sl 0 [] true], .sc (.int .i64 x.2)]) (by kernel_rfl) (WkV.tup (Wks.cons (WkV.sl (Wk1.nil 51 false)) trivial trivial (Wks.cons (WkV.agg (WkL.cons (Wk1.nil 51 false) (WkL.cons (Wk1.nil 51 false) WkL.nil))) trivial trivial (Wks.cons (WkV.refl _) trivial trivial Wks.nil))))
  case hf1 =>
    replace H := cond_f hb H
    refine AR.seg hG hm 2 [0, 7, 9] (k' := [.code [1, 1, 1, 0], .code [1, 1, 1, 1]]) (t' := [(0, .sl 51 (List.map Rule.av list) f_list), (7, .ptr 1 0 none), (9, .sl 51 (List.map Rule.av x.1) false)]) (h' := [.box 33 (Mod.ch m1), .box 35 [.sl 0 [] true, .sl 0 [] true]]) (by kernel_rfl) ?_
    refine AR.reg hm undo_Inverse_k1 (by kernel_rfl) ?_
    refine DK.seg hG 3 [7, 22, 23, 24] (t' := [(7, .ptr 1 0 none), (22, .sl 51 (List.map Rule.av x.1) false), (23, .sl 51 (List.map Rule.av list) f_list), (24, .sl 51 (List.map Rule.av x.1) false)]) (h' := [.box 33 (Mod.ch m1), .box 35 [.sl 0 [] true, .sl 0 [] true]]) (by kernel_rfl) rfl ?_
    refine DK.op' [7, 22, 25] (t' := [(7, .ptr 1 0 none), (22, .sl 51 (List.map Rule.av x.1) false), (25, Patch.av (undo_Diff list x.1))]) (h' := [.box 33 (Mod.ch m1), .box 35 [.sl 0 [] true, .sl 0 [] true]]) (LSpec.callP' (undo_Diff_calls list x.1 f_list false) (by kernel_rfl)) (by kernel_rfl) rfl (by kernel_rfl) rfl ?_
    refine DK.seg hG 3 [6, 7, 8] (t' := [(6, .sl 51 (List.map Rule.av x.1) false), (7, .ptr 1 0 none), (8, .sc (.int .i64 0))]) (h' := [.box 33 (Mod.ch m1), .box 35 (Patch.ch (undo_Diff list x.1))]) (by kernel_rfl) rfl ?_
    refine DK.done (by kernel_rfl) (by kernel_rfl) ?_
    obtain rfl := Option.some.inj H
    exact AR.ret0 (fn := Try.f9) hG Try.func9 (by kernel_rfl) hc0 (r0 := .tup [.sl 51 (List.map Rule.av x.1) false, Patch.av (undo_Diff list x.1), .sc (.int .i64 0)]) (by kernel_rfl) (WkV.refl _)

end Go.Proofs.Ytlfiemphadkimaa

set_option linter.unusedVariables false
set_option linter.unusedSimpArgs false
set_option maxRecDepth 100000
set_option maxHeartbeats 4000000
namespace Go.Proofs.Ytlfiemphadkimaa
open Go.Sh
set_option maxRecDepth 100000
open Go.ChangeShapes Go.WideShapes Go.ChangeAt Go.RowKit
def Act.wf (x : Act) : Prop := intW .i64 x.Kind ∧ intW .i64 x.Port ∧ intW .i64 x.Field ∧ intW .u64 x.Value
theorem Act.shaped {gs : List AV} (h : Shaped tab 60 gs) : ∃ x : Act, gs = [.sc (.int .i64 x.Kind), .sc (.int .i64 x.Port), .sc (.int .i64 x.Field), .sc (.int .u64 x.Value)] ∧ x.wf := by
  obtain ⟨gss, rfl, hl, hf⟩ := Shaped.struct_inv (fl := [(0, 3), (1, 3), (2, 3), (3, 26)]) (by kernel_rfl) h
  match gss, hl, hf with
  | [g0, g1, g2, g3], _, hf =>
    obtain ⟨x0, rfl, w0⟩ := Shaped.int_inv (k := .i64) (by kernel_rfl) (hf 0 _ _ rfl rfl)
    obtain ⟨x1, rfl, w1⟩ := Shaped.int_inv (k := .i64) (by kernel_rfl) (hf 1 _ _ rfl rfl)
    obtain ⟨x2, rfl, w2⟩ := Shaped.int_inv (k := .i64) (by kernel_rfl) (hf 2 _ _ rfl rfl)
    obtain ⟨x3, rfl, w3⟩ := Shaped.int_inv (k := .u64) (by kernel_rfl) (hf 3 _ _ rfl rfl)
    exact ⟨⟨x0, x1, x2, x3⟩, rfl, ⟨w0, w1, w2, w3⟩⟩
def Cube.wf (x : Cube) : Prop := arrW .u64 12 x.Value ∧ arrW .u64 12 x.Care
theorem Cube.shaped {gs : List AV} (h : Shaped tab 30 gs) : ∃ x : Cube, gs = [.arr .u64 12 x.Value, .arr .u64 12 x.Care] ∧ x.wf := by
  obtain ⟨gss, rfl, hl, hf⟩ := Shaped.struct_inv (fl := [(0, 28), (12, 28)]) (by kernel_rfl) h
  match gss, hl, hf with
  | [g0, g1], _, hf =>
    obtain ⟨x0, rfl, w0⟩ := Shaped.arr_inv (n := 12) (e := 26) (k := .u64) (by kernel_rfl) (by kernel_rfl) (hf 0 _ _ rfl rfl)
    obtain ⟨x1, rfl, w1⟩ := Shaped.arr_inv (n := 12) (e := 26) (k := .u64) (by kernel_rfl) (by kernel_rfl) (hf 1 _ _ rfl rfl)
    exact ⟨⟨x0, x1⟩, rfl, ⟨w0, w1⟩⟩
def Rule.wf (x : Rule) : Prop := Cube.wf x.Match ∧ intW .i64 x.Prio ∧ (∀ y ∈ x.Acts, Act.wf y) ∧ intW .i64 x.Idle ∧ intW .i64 x.Hard ∧ intW .i64 x.Owner ∧ intW .i64 x.Hits ∧ intW .i64 x.Quiet ∧ intW .i64 x.Age
theorem Rule.shaped {gs : List AV} (h : Shaped tab 51 gs) : ∃ x : Rule, gs = [.arr .u64 12 x.Match.Value, .arr .u64 12 x.Match.Care, .sc (.int .i64 x.Prio), .sl 60 (List.map Act.av x.Acts) false, .sc (.int .i64 x.Idle), .sc (.int .i64 x.Hard), .sc (.int .i64 x.Owner), .sc (.int .i64 x.Hits), .sc (.int .i64 x.Quiet), .sc (.int .i64 x.Age)] ∧ x.wf := by
  obtain ⟨gss, rfl, hl, hf⟩ := Shaped.struct_inv (fl := [(0, 30), (24, 3), (25, 31), (26, 3), (27, 3), (28, 3), (29, 3), (30, 3), (31, 3)]) (by kernel_rfl) h
  match gss, hl, hf with
  | [g0, g1, g2, g3, g4, g5, g6, g7, g8], _, hf =>
    obtain ⟨x0, rfl, w0⟩ := Cube.shaped (hf 0 _ _ rfl rfl)
    obtain ⟨x1, rfl, w1⟩ := Shaped.int_inv (k := .i64) (by kernel_rfl) (hf 1 _ _ rfl rfl)
    obtain ⟨q2, rfl, hq2⟩ := Shaped.slice_inv (e := 60) (by kernel_rfl) (hf 2 _ _ rfl rfl)
    obtain ⟨x2, hx2, w2⟩ := rows_typedW (G := tab) (e := 60) (av := Act.av) (wf := fun y => Act.wf y) q2 (fun g hg => by obtain ⟨x, rfl, w⟩ := Act.shaped (hq2 g hg); exact ⟨x, (by kernel_rfl), w⟩)
    obtain ⟨x3, rfl, w3⟩ := Shaped.int_inv (k := .i64) (by kernel_rfl) (hf 3 _ _ rfl rfl)
    obtain ⟨x4, rfl, w4⟩ := Shaped.int_inv (k := .i64) (by kernel_rfl) (hf 4 _ _ rfl rfl)
    obtain ⟨x5, rfl, w5⟩ := Shaped.int_inv (k := .i64) (by kernel_rfl) (hf 5 _ _ rfl rfl)
    obtain ⟨x6, rfl, w6⟩ := Shaped.int_inv (k := .i64) (by kernel_rfl) (hf 6 _ _ rfl rfl)
    obtain ⟨x7, rfl, w7⟩ := Shaped.int_inv (k := .i64) (by kernel_rfl) (hf 7 _ _ rfl rfl)
    obtain ⟨x8, rfl, w8⟩ := Shaped.int_inv (k := .i64) (by kernel_rfl) (hf 8 _ _ rfl rfl)
    rw [hx2]; exact ⟨⟨x0, x1, x2, x3, x4, x5, x6, x7, x8⟩, rfl, ⟨w0, w1, w2, w3, w4, w5, w6, w7, w8⟩⟩
def Mod.wf (x : Mod) : Prop := intW .i64 x.Kind ∧ Cube.wf x.Match ∧ intW .i64 x.Prio ∧ (∀ y ∈ x.Acts, Act.wf y) ∧ intW .i64 x.Idle ∧ intW .i64 x.Hard ∧ intW .i64 x.Owner ∧ True
theorem Mod.shaped {gs : List AV} (h : Shaped tab 33 gs) : ∃ x : Mod, gs = [.sc (.int .i64 x.Kind), .arr .u64 12 x.Match.Value, .arr .u64 12 x.Match.Care, .sc (.int .i64 x.Prio), .sl 60 (List.map Act.av x.Acts) false, .sc (.int .i64 x.Idle), .sc (.int .i64 x.Hard), .sc (.int .i64 x.Owner), .sc (.bool x.Check)] ∧ x.wf := by
  obtain ⟨gss, rfl, hl, hf⟩ := Shaped.struct_inv (fl := [(0, 3), (1, 30), (25, 3), (26, 31), (27, 3), (28, 3), (29, 3), (30, 4)]) (by kernel_rfl) h
  match gss, hl, hf with
  | [g0, g1, g2, g3, g4, g5, g6, g7], _, hf =>
    obtain ⟨x0, rfl, w0⟩ := Shaped.int_inv (k := .i64) (by kernel_rfl) (hf 0 _ _ rfl rfl)
    obtain ⟨x1, rfl, w1⟩ := Cube.shaped (hf 1 _ _ rfl rfl)
    obtain ⟨x2, rfl, w2⟩ := Shaped.int_inv (k := .i64) (by kernel_rfl) (hf 2 _ _ rfl rfl)
    obtain ⟨q3, rfl, hq3⟩ := Shaped.slice_inv (e := 60) (by kernel_rfl) (hf 3 _ _ rfl rfl)
    obtain ⟨x3, hx3, w3⟩ := rows_typedW (G := tab) (e := 60) (av := Act.av) (wf := fun y => Act.wf y) q3 (fun g hg => by obtain ⟨x, rfl, w⟩ := Act.shaped (hq3 g hg); exact ⟨x, (by kernel_rfl), w⟩)
    obtain ⟨x4, rfl, w4⟩ := Shaped.int_inv (k := .i64) (by kernel_rfl) (hf 4 _ _ rfl rfl)
    obtain ⟨x5, rfl, w5⟩ := Shaped.int_inv (k := .i64) (by kernel_rfl) (hf 5 _ _ rfl rfl)
    obtain ⟨x6, rfl, w6⟩ := Shaped.int_inv (k := .i64) (by kernel_rfl) (hf 6 _ _ rfl rfl)
    obtain ⟨x7, rfl⟩ := Shaped.bool_inv (by kernel_rfl) (hf 7 _ _ rfl rfl)
    rw [hx3]; exact ⟨⟨x0, x1, x2, x3, x4, x5, x6, x7⟩, rfl, ⟨w0, w1, w2, w3, w4, w5, w6, trivial⟩⟩

end Go.Proofs.Ytlfiemphadkimaa

set_option linter.unusedVariables false
set_option linter.unusedSimpArgs false
set_option maxRecDepth 100000
set_option maxHeartbeats 4000000
namespace Go.Proofs.Ytlfiemphadkimaa
open Go.Sh
/-! ### podestalaw08.answers: function 8 -/
noncomputable def podestalaw08_answers_F : Go.Sh.Fn := ⟨8, bodyOf Try.f8, 40⟩
def podestalaw08_answers_k2 : List Kd := [.pure, .pure, .pure, .pure, .pure, .pure, .pure, .pure, .pure, .pure, .pure, .pure, .pure, .read, .pure, .pure, .pure, .pure, .pure, .pure, .pure, .pure, .pure]
def podestalaw08_answers_k1 : List Kd := [.pure, .read, .pure, .pure, .pure, .pure, .pure, .pure]
def podestalaw08_answers_k0 : List Kd := [.pure, .pure, .pure, .pure, .pure, .pure, .loud, .pure, .loud, .pure]
def podestalaw08_answers_raw : Option (Bool) :=
  (undo_Inverse_raw [] ({ Kind := 1, Match := ({ Value := [0, 0, 0, 0, 0, 0, 0, 0, 0, 0, 0, 0], Care := [0, 0, 0, 0, 0, 0, 0, 0, 0, 0, 0, 0] } : Cube), Prio := 0, Acts := [], Idle := 0, Hard := 0, Owner := 0, Check := false } : Mod) 5).bind fun x =>
  (undo_Back_raw x.1 x.2.1).bind fun x1 =>
  some (((((x.2.2 == 0) && (x1.2 == 0)) && ((((List.map Rule.av x.1).length : Nat) : Int) == 1)) && ((((List.map Rule.av x.2.1.New).length : Nat) : Int) == 1)) && ((((List.map Rule.av x1.1).length : Nat) : Int) == 0))
theorem podestalaw08_answers_walk (r : Bool) (H : podestalaw08_answers_raw = some r) :
    ACalls Try.prog tab.S 8 [] [] (.sc (.bool r)) [] := by
  have hG := tab_ok
  have hm := mixed
  refine ACalls.of_AR (G := tab) podestalaw08_answers_F (fn := Try.f8) Try.func8 (by kernel_rfl) (by kernel_rfl) (by kernel_rfl) (Nat.le_of_ble_eq_true (by kernel_rfl)) ?_
  intro c0 hc0
  replace hc0 : c0.m.length = 0 := hc0
  rw [podestalaw08_answers_raw] at H
  refine AR.seg hG hm 3 [] (k' := [.code [1, 0], .code [1, 1]]) (t' := []) (h' := []) (by kernel_rfl) ?_
  refine AR.reg hm podestalaw08_answers_k0 (by kernel_rfl) ?_
  refine DK.seg hG 1 [7] (t' := [(7, .agg [.sc (.int .i64 1), .arr .u64 12 [0, 0, 0, 0, 0, 0, 0, 0, 0, 0, 0, 0], .arr .u64 12 [0, 0, 0, 0, 0, 0, 0, 0, 0, 0, 0, 0], .sc (.int .i64 0), .sl 0 [] true, .sc (.int .i64 0), .sc (.int .i64 0), .sc (.int .i64 0), .sc (.bool false)])]) (h' := []) (by kernel_rfl) rfl ?_
  obtain ⟨x, hv, H⟩ := Option.bind_eq_some_iff.1 H
  refine DK.op' [8] (t' := [(8, .tup [.sl 51 (List.map Rule.av x.1) false, Patch.av x.2.1, .sc (.int .i64 x.2.2)])]) (h' := []) (LSpec.callP' (ACalls.wk (aas := [.sl 0 [] true, .agg [.sc (.int .i64 1), .arr .u64 12 [0, 0, 0, 0, 0, 0, 0, 0, 0, 0, 0, 0], .arr .u64 12 [0, 0, 0, 0, 0, 0, 0, 0, 0, 0, 0, 0], .sc (.int .i64 0), .sl 0 [] true, .sc (.int .i64 0), .sc (.int .i64 0), .sc (.int .i64 0), .sc (.bool false)], .sc (.int .i64 5)]) (Wks.cons (WkV.sl (Wk1.nil 51 true)) trivial trivial (Wks.cons (WkV.agg (WkL.cons (Wk1.refl _) (WkL.cons (Wk1.refl _) (WkL.cons (Wk1.refl _) (WkL.cons (Wk1.refl _) (WkL.cons (Wk1.nil 60 false) (WkL.cons (Wk1.refl _) (WkL.cons (Wk1.refl _) (WkL.cons (Wk1.refl _) (WkL.cons (Wk1.refl _) WkL.nil)))))))))) trivial trivial (Wks.cons (WkV.refl _) trivial trivial Wks.nil))) (undo_Inverse_walk [] ({ Kind := 1, Match := ({ Value := [0, 0, 0, 0, 0, 0, 0, 0, 0, 0, 0, 0], Care := [0, 0, 0, 0, 0, 0, 0, 0, 0, 0, 0, 0] } : Cube), Prio := 0, Acts := [], Idle := 0, Hard := 0, Owner := 0, Check := false } : Mod) 5 true x hv)) (by kernel_rfl)) (by kernel_rfl) rfl (by kernel_rfl) rfl ?_
  refine DK.seg hG 8 [1, 2, 3] (t' := [(1, .sl 51 (List.map Rule.av x.1) false), (2, .ptr 0 0 none), (3, .sc (.int .i64 x.2.2))]) (h' := [.box 35 (Patch.ch x.2.1)]) (by kernel_rfl) rfl ?_
  refine DK.done (by kernel_rfl) (by kernel_rfl) ?_
  refine AR.seg hG hm 1 [1, 2, 3] (k' := [.code [1, 1, 0], .code [1, 1, 1]]) (t' := [(1, .sl 51 (List.map Rule.av x.1) false), (2, .ptr 0 0 none), (3, .sc (.int .i64 x.2.2))]) (h' := [.box 35 (Patch.ch x.2.1)]) (by kernel_rfl) ?_
  refine AR.reg hm podestalaw08_answers_k1 (by kernel_rfl) ?_
  refine DK.seg hG 2 [1, 2, 3, 13, 14] (t' := [(1, .sl 51 (List.map Rule.av x.1) false), (2, .ptr 0 0 none), (3, .sc (.int .i64 x.2.2)), (13, .sl 51 (List.map Rule.av x.1) false), (14, Patch.av x.2.1)]) (h' := [.box 35 (Patch.ch x.2.1)]) (by kernel_rfl) rfl ?_
  obtain ⟨x1, hv, H⟩ := Option.bind_eq_some_iff.1 H
  refine DK.op' [1, 2, 3, 15] (t' := [(1, .sl 51 (List.map Rule.av x.1) false), (2, .ptr 0 0 none), (3, .sc (.int .i64 x.2.2)), (15, .tup [.sl 51 (List.map Rule.av x1.1) true, .sc (.int .i64 x1.2)])]) (h' := [.box 35 (Patch.ch x.2.1)]) (LSpec.callP' (undo_Back_walk x.1 x.2.1 false x1 hv) (by kernel_rfl)) (by kernel_rfl) rfl (by kernel_rfl) rfl ?_
  refine DK.seg hG 5 [1, 2, 3, 4, 5] (t' := [(1, .sl 51 (List.map Rule.av x.1) false), (2, .ptr 0 0 none), (3, .sc (.int .i64 x.2.2)), (4, .sl 51 (List.map Rule.av x1.1) true), (5, .sc (.int .i64 x1.2))]) (h' := [.box 35 (Patch.ch x.2.1)]) (by kernel_rfl) rfl ?_
  refine DK.done (by kernel_rfl) (by kernel_rfl) ?_
  refine AR.seg hG hm 1 [1, 2, 3, 4, 5] (k' := [.code [1, 1, 1, 0], .code [1, 1, 1, 1]]) (t' := [(1, .sl 51 (List.map Rule.av x.1) false), (2, .ptr 0 0 none), (3, .sc (.int .i64 x.2.2)), (4, .sl 51 (List.map Rule.av x1.1) true), (5, .sc (.int .i64 x1.2))]) (h' := [.box 35 (Patch.ch x.2.1)]) (by kernel_rfl) ?_
  refine AR.reg hm podestalaw08_answers_k2 (by kernel_rfl) ?_
  refine DK.seg hG 3 [1, 2, 4, 5, 20] (t' := [(1, .sl 51 (List.map Rule.av x.1) false), (2, .ptr 0 0 none), (4, .sl 51 (List.map Rule.av x1.1) true), (5, .sc (.int .i64 x1.2)), (20, .sc (.bool (x.2.2 == 0)))]) (h' := [.box 35 (Patch.ch x.2.1)]) (by kernel_rfl) rfl ?_
  refine DK.mux 20 (x.2.2 == 0) (j := 6) (h' := [.box 35 (Patch.ch x.2.1)]) (by kernel_rfl) (fun z => [(1, .sl 51 (List.map Rule.av x.1) false), (2, .ptr 0 0 none), (4, .sl 51 (List.map Rule.av x1.1) true), (23, .sc (.bool (z && (x1.2 == 0))))]) ?J1 (fun hb J => ?ht1) (fun hb J => ?hf1)
  case ht1 =>
    exact DK.seg hG 3 [1, 2, 4, 23] (by kernel_rfl) rfl J
  case hf1 =>
    exact DK.seg hG 3 [1, 2, 4, 23] (by kernel_rfl) rfl J
  refine DK.seg hG 1 [1, 2, 4, 24] (t' := [(1, .sl 51 (List.map Rule.av x.1) false), (2, .ptr 0 0 none), (4, .sl 51 (List.map Rule.av x1.1) true), (24, .sc (.bool ((x.2.2 == 0) && (x1.2 == 0))))]) (h' := [.box 35 (Patch.ch x.2.1)]) (by kernel_rfl) rfl ?_
  refine DK.mux 24 ((x.2.2 == 0) && (x1.2 == 0)) (j := 11) (h' := [.box 35 (Patch.ch x.2.1)]) (by kernel_rfl) (fun z => [(2, .ptr 0 0 none), (4, .sl 51 (List.map Rule.av x1.1) true), (28, .sc (.bool (z && ((((List.map Rule.av x.1).length : Nat) : Int) == 1))))]) ?J2 (fun hb J => ?ht2) (fun hb J => ?hf2)
  case ht2 =>
    exact DK.seg hG 4 [2, 4, 28] (by kernel_rfl) rfl J
  case hf2 =>
    exact DK.seg hG 4 [2, 4, 28] (by kernel_rfl) rfl J
  refine DK.seg hG 1 [2, 4, 29] (t' := [(2, .ptr 0 0 none), (4, .sl 51 (List.map Rule.av x1.1) true), (29, .sc (.bool (((x.2.2 == 0) && (x1.2 == 0)) && ((((List.map Rule.av x.1).length : Nat) : Int) == 1))))]) (h' := [.box 35 (Patch.ch x.2.1)]) (by kernel_rfl) rfl ?_
  refine DK.mux 29 (((x.2.2 == 0) && (x1.2 == 0)) && ((((List.map Rule.av x.1).length : Nat) : Int) == 1)) (j := 17) (h' := [.box 35 (Patch.ch x.2.1)]) (by kernel_rfl) (fun z => [(4, .sl 51 (List.map Rule.av x1.1) true), (34, .sc (.bool (z && ((((List.map Rule.av x.2.1.New).length : Nat) : Int) == 1))))]) ?J3 (fun hb J => ?ht3) (fun hb J => ?hf3)
  case ht3 =>
    exact DK.seg hG 5 [4, 34] (by kernel_rfl) rfl J
  case hf3 =>
    exact DK.seg hG 5 [4, 34] (by kernel_rfl) rfl J
  refine DK.seg hG 1 [4, 35] (t' := [(4, .sl 51 (List.map Rule.av x1.1) true), (35, .sc (.bool ((((x.2.2 == 0) && (x1.2 == 0)) && ((((List.map Rule.av x.1).length : Nat) : Int) == 1)) && ((((List.map Rule.av x.2.1.New).length : Nat) : Int) == 1))))]) (h' := [.box 35 (Patch.ch x.2.1)]) (by kernel_rfl) rfl ?_
  refine DK.mux 35 ((((x.2.2 == 0) && (x1.2 == 0)) && ((((List.map Rule.av x.1).length : Nat) : Int) == 1)) && ((((List.map Rule.av x.2.1.New).length : Nat) : Int) == 1)) (j := 22) (h' := [.box 35 (Patch.ch x.2.1)]) (by kernel_rfl) (fun z => [(39, .sc (.bool (z && ((((List.map Rule.av x1.1).length : Nat) : Int) == 0))))]) ?J4 (fun hb J => ?ht4) (fun hb J => ?hf4)
  case ht4 =>
    exact DK.seg hG 4 [39] (by kernel_rfl) rfl J
  case hf4 =>
    exact DK.seg hG 4 [39] (by kernel_rfl) rfl J
  refine DK.seg hG 1 [0] (t' := [(0, .sc (.bool (((((x.2.2 == 0) && (x1.2 == 0)) && ((((List.map Rule.av x.1).length : Nat) : Int) == 1)) && ((((List.map Rule.av x.2.1.New).length : Nat) : Int) == 1)) && ((((List.map Rule.av x1.1).length : Nat) : Int) == 0))))]) (h' := [.box 35 (Patch.ch x.2.1)]) (by kernel_rfl) rfl ?_
  refine DK.done (by kernel_rfl) (by kernel_rfl) ?_
  obtain rfl := Option.some.inj H
  exact AR.ret0 (fn := Try.f8) hG Try.func8 (by kernel_rfl) hc0 (r0 := .sc (.bool (((((x.2.2 == 0) && (x1.2 == 0)) && ((((List.map Rule.av x.1).length : Nat) : Int) == 1)) && ((((List.map Rule.av x.2.1.New).length : Nat) : Int) == 1)) && ((((List.map Rule.av x1.1).length : Nat) : Int) == 0)))) (by kernel_rfl) (WkV.refl _)

theorem podestalaw08_answers_ok : ACalls Try.prog tab.S 8 [] [] (.sc (.bool true)) [] := podestalaw08_answers_walk true (by kernel_rfl)
end Go.Proofs.Ytlfiemphadkimaa

set_option linter.unusedVariables false
set_option linter.unusedSimpArgs false
set_option maxRecDepth 100000
set_option maxHeartbeats 4000000
namespace Go.Proofs.Ytlfiemphadkimaa
open Go.Sh
/-! ### podestaref01.Size: function 65 -/
noncomputable def podestaref01_Size_F : Go.Sh.Fn := ⟨65, bodyOf Try.f65, 13⟩
def podestaref01_Size_k1 : List Kd := [.pure, .pure, .pure, .pure, .pure]
def podestaref01_Size_k0 : List Kd := [.pure, .pure, .pure, .pure, .pure, .pure]
def podestaref01_Size_raw (field : Int) : Option (Int) :=
  (bif ((decide (field < 0)) || (decide (field > 11))) then
    some 0
  else
    (ixO [16, 48, 48, 16, 12, 4, 32, 32, 8, 8, 12, 12] field).bind fun x =>
    some x)
theorem podestaref01_Size_walk (field : Int) (r : Int) (H : podestaref01_Size_raw field = some r) :
    ACalls Try.prog tab.S 65 [.sc (.int .i64 field)] [] (.sc (.int .i64 r)) [] := by
  have hG := tab_ok
  have hm := mixed
  refine ACalls.of_AR (G := tab) podestaref01_Size_F (fn := Try.f65) Try.func65 (by kernel_rfl) (by kernel_rfl) (by kernel_rfl) (Nat.le_of_ble_eq_true (by kernel_rfl)) ?_
  intro c0 hc0
  replace hc0 : c0.m.length = 0 := hc0
  rw [podestaref01_Size_raw] at H
  refine AR.seg hG hm 4 [0] (k' := [.code [1, 0, 0], .code [1, 0, 1], .code [1, 1]]) (t' := [(0, .sc (.int .i64 field))]) (h' := []) (by kernel_rfl) ?_
  refine AR.reg hm podestaref01_Size_k0 (by kernel_rfl) ?_
  refine DK.seg hG 3 [0, 5] (t' := [(0, .sc (.int .i64 field)), (5, .sc (.bool (decide (field < 0))))]) (h' := []) (by kernel_rfl) rfl ?_
  refine DK.mux 5 (decide (field < 0)) (j := 6) (h' := []) (by kernel_rfl) (fun z => [(0, .sc (.int .i64 field)), (8, .sc (.bool (z || (decide (field > 11)))))]) ?J1 (fun hb J => ?ht1) (fun hb J => ?hf1)
  case ht1 =>
    exact DK.seg hG 3 [0, 8] (by kernel_rfl) rfl J
  case hf1 =>
    exact DK.seg hG 3 [0, 8] (by kernel_rfl) rfl J
  refine DK.done (by kernel_rfl) (by kernel_rfl) ?_
  refine AR.cond (.tmp 8) ((decide (field < 0)) || (decide (field > 11))) (by kernel_rfl) (by kernel_rfl) (fun hb => ?ht2) (fun hb => ?hf2)
  case ht2 =>
    replace H := cond_t hb H
    refine AR.seg hG hm 2 [2] (k' := [.code [1, 0, 1, 0, 1], .code [1, 1]]) (t' := [(2, .sc (.int .i64 0))]) (h' := []) (by kernel_rfl) ?_
    obtain rfl := Option.some.inj H
    exact AR.ret0 (fn := Try.f65) hG Try.func65 (by kernel_rfl) hc0 (r0 := .sc (.int .i64 0)) (by kernel_rfl) (WkV.refl _)
  case hf2 =>
    replace H := cond_f hb H
    refine AR.seg hG hm 2 [0] (k' := [.code [1, 1, 0], .code [1, 1, 1]]) (t' := [(0, .sc (.int .i64 field))]) (h' := []) (by kernel_rfl) ?_
    refine AR.reg hm podestaref01_Size_k1 (by kernel_rfl) ?_
    refine DK.seg hG 2 [9, 10] (t' := [(9, .sl 3 (List.map (intA .i64) [16, 48, 48, 16, 12, 4, 32, 32, 8, 8, 12, 12]) true), (10, .sc (.int .i64 field))]) (h' := []) (by kernel_rfl) rfl ?_
    obtain ⟨x, hv, H⟩ := Option.bind_eq_some_iff.1 H
    refine DK.op' [11] (t' := [(11, .ep [.sc (.int .i64 x)] 0 none)]) (h' := []) (LSpec.index' (r := .sc (.int .i64 x)) (fs := [.sc (.int .i64 x)]) hG (rows := List.map (intA .i64) [16, 48, 48, 16, 12, 4, 32, 32, 8, 8, 12, 12]) (j := field) (by kernel_rfl) (ixO_map hv _) (by kernel_rfl)) (by kernel_rfl) rfl (by kernel_rfl) rfl ?_
    refine DK.seg hG 2 [2] (t' := [(2, .sc (.int .i64 x))]) (h' := []) (by kernel_rfl) rfl ?_
    refine DK.done (by kernel_rfl) (by kernel_rfl) ?_
    obtain rfl := Option.some.inj H
    exact AR.ret0 (fn := Try.f65) hG Try.func65 (by kernel_rfl) hc0 (r0 := .sc (.int .i64 x)) (by kernel_rfl) (WkV.refl _)

theorem podestaref01_Size_ok (n : Int) : ACalls Try.prog tab.S 65 [.sc (.int .i64 n)] [] (.sc (.int .i64 (sizeT n))) [] := by
  refine podestaref01_Size_walk n (sizeT n) ?_
  rw [podestaref01_Size_raw]
  rcases sizeT_cases n with ⟨h, e⟩ | ⟨h1, h2, k, rfl, hk, e⟩
  · rw [e]
    have : ((decide (n < 0)) || (decide (n > 11))) = true := by
      rw [Bool.or_eq_true, decide_eq_true_eq, decide_eq_true_eq]; omega
    rw [this]
    rfl
  · rw [e, decide_eq_false (by omega), decide_eq_false (by omega)]
    match k, hk with
    | 0, _ | 1, _ | 2, _ | 3, _ | 4, _ | 5, _ | 6, _ | 7, _ | 8, _ | 9, _ | 10, _ | 11, _ => rfl

/-! ### podestaref01.Fits: function 64 -/
noncomputable def podestaref01_Fits_F : Go.Sh.Fn := ⟨64, bodyOf Try.f64, 10⟩
def podestaref01_Fits_k0 : List Kd := [.pure, .pure, .pure, .pure, .pure, .pure]
def podestaref01_Fits (v : Int) (size : Int) : Bool :=
  (decide (v < (IntKind.u64.wrap (1 * 2 ^ (min ((IntKind.u64.wrap size) : Int).toNat (IntKind.u64).bits)))))
theorem podestaref01_Fits_walk (v : Int) (size : Int) (r : Bool) (H : podestaref01_Fits v size = r) :
    ACalls Try.prog tab.S 64 [.sc (.int .u64 v), .sc (.int .i64 size)] [] (.sc (.bool r)) [] := by
  have hG := tab_ok
  have hm := mixed
  refine ACalls.of_AR (G := tab) podestaref01_Fits_F (fn := Try.f64) Try.func64 (by kernel_rfl) (by kernel_rfl) (by kernel_rfl) (Nat.le_of_ble_eq_true (by kernel_rfl)) ?_
  intro c0 hc0
  replace hc0 : c0.m.length = 0 := hc0
  rw [podestaref01_Fits] at H
  refine AR.seg hG hm 3 [0, 1] (k' := [.code [1, 0], .code [1, 1]]) (t' := [(0, .sc (.int .u64 v)), (1, .sc (.int .i64 size))]) (h' := []) (by kernel_rfl) ?_
  refine AR.reg hm podestaref01_Fits_k0 (by kernel_rfl) ?_
  refine DK.seg hG 3 [5, 7] (t' := [(5, .sc (.int .u64 v)), (7, .sc (.int .u64 (IntKind.u64.wrap size)))]) (h' := []) (by kernel_rfl) rfl ?_
  refine DK.op' [5, 8] (t' := [(5, .sc (.int .u64 v)), (8, .sc (.int .u64 (IntKind.u64.wrap (1 * 2 ^ (min ((IntKind.u64.wrap size) : Int).toNat (IntKind.u64).bits)))))]) (h' := []) (LSpec.shl (k := .u64) (a := 1) (k' := .u64) (b := (IntKind.u64.wrap size)) (wrapU_nonneg _) (by kernel_rfl)) (by kernel_rfl) rfl (by kernel_rfl) rfl ?_
  refine DK.seg hG 2 [4] (t' := [(4, .sc (.bool (decide (v < (IntKind.u64.wrap (1 * 2 ^ (min ((IntKind.u64.wrap size) : Int).toNat (IntKind.u64).bits)))))))]) (h' := []) (by kernel_rfl) rfl ?_
  refine DK.done (by kernel_rfl) (by kernel_rfl) ?_
  subst H
  exact AR.ret0 (fn := Try.f64) hG Try.func64 (by kernel_rfl) hc0 (r0 := .sc (.bool (decide (v < (IntKind.u64.wrap (1 * 2 ^ (min ((IntKind.u64.wrap size) : Int).toNat (IntKind.u64).bits))))))) (by kernel_rfl) (WkV.refl _)
theorem podestaref01_Fits_calls (v : Int) (size : Int) : ACalls Try.prog tab.S 64 [.sc (.int .u64 v), .sc (.int .i64 size)] [] (.sc (.bool (podestaref01_Fits v size))) [] := podestaref01_Fits_walk v size _ rfl

theorem refFits_eq (n v : Int) : podestaref01_Fits v (sizeT n) = fitsT n v := by
  have hs := sizeT_in n
  unfold podestaref01_Fits fitsT
  have h1 : IntKind.u64.wrap (sizeT n) = sizeT n := wrapU_eq hs.1 (by omega)
  have hm : min (sizeT n).toNat (IntKind.u64).bits = (sizeT n).toNat := Nat.min_eq_left (by show _ ≤ 64; omega)
  have hp := pow_le48 (k := (sizeT n).toNat) (by omega)
  have hq := pow_pos2 (sizeT n).toNat
  rw [h1, hm, Int.one_mul, wrapU_eq (by omega) (by omega)]

/-! ### podestaref04.Acts: function 37 -/
noncomputable def podestaref04_Acts_F : Go.Sh.Fn := ⟨37, bodyOf Try.f37, 81⟩
def podestaref04_Acts_k1 : List Kd := [.pure, .read, .pure, .pure, .pure, .read, .pure, .pure, .pure, .pure, .read, .pure, .pure, .pure, .pure, .read, .pure, .pure, .pure]
def podestaref04_Acts_k2 : List Kd := [.pure, .read, .pure, .pure, .pure, .read, .pure, .pure, .pure, .pure, .read, .pure, .pure, .pure, .pure, .read, .pure, .read, .pure, .pure, .pure, .pure]
def podestaref04_Acts_k3 : List Kd := [.pure, .read, .pure, .pure, .pure, .read, .pure, .pure, .pure, .pure, .read, .pure, .pure, .pure]
def podestaref04_Acts_k0 : List Kd := [.pure, .pure, .pure, .pure, .loud, .loud]
def podestaref04_Acts_l0s : List Act → Sum (Unit) (Bool)
  | [] =>
    (.inl ())
  | x :: rest =>
    (bif (!(bif (x.Kind == 1) then ((((decide (x.Port ≥ 1)) && (decide (x.Port ≤ 16))) && (x.Field == 0)) && (x.Value == 0)) else (bif (x.Kind == 2) then ((((x.Port == 0) && (decide (x.Field ≥ 0))) && (decide (x.Field < 12))) && (podestaref01_Fits x.Value (sizeT x.Field))) else ((x.Kind == 3) && (((x.Port == 0) && (x.Field == 0)) && (x.Value == 0)))))) then
      (.inr false)
    else
      podestaref04_Acts_l0s rest )
theorem podestaref04_Acts_l0_walk (l : List Act) (f_l : Bool) (r : Bool) (c0 : Ctx) (hc0 : c0.m.length = 0) (res : Sum (Unit) (Bool)) (J : ∀ w : Unit, res = .inl w → AR Try.prog tab podestaref04_Acts_F c0 (Rp tab.S c0 (.sc (.bool r)) []) [.code [1, 1]] [(0, .sl 60 (List.map Act.av l) f_l)] []) (Jr : ∀ w, res = .inr w → w = r) :
    ∀ (rest : List Act) (i : Nat) (hd : l.drop i = rest) (H : podestaref04_Acts_l0s rest = res), AR Try.prog tab podestaref04_Acts_F c0 (Rp tab.S c0 (.sc (.bool r)) []) [.code [1, 0, 1, 0, 0], .loop [1, 0, 1, 0], .blk 0, .code [1, 1]] [(0, .sl 60 (List.map Act.av l) f_l), (3, .sc (.int .i64 ((i : Nat) : Int)))] [] := by
  have hG := tab_ok
  have hm := mixed
  intro rest
  induction rest with
  | nil =>
    intro i hd  H
    rw [podestaref04_Acts_l0s] at H
    refine AR.facts 0 rfl fun hf => ?_
    have hlen : l.length ≤ 9223372036854775807 := by have hq := len_ok hf.2.1; rw [List.length_map] at hq; exact hq
    have hge : l.length ≤ i := List.drop_eq_nil_iff.1 hd
    have hc : (decide (((i : Nat) : Int) < (((List.map Act.av l).length : Nat) : Int))) = false := by rw [List.length_map]; exact decide_eq_false (by omega)
    refine AR.seg hG hm 3 [0, 3, 9] (k' := [.code [1, 0, 1, 0, 0, 0, 1], .code [1, 0, 1, 0, 0, 1], .loop [1, 0, 1, 0], .blk 0, .code [1, 1]]) (t' := [(0, .sl 60 (List.map Act.av l) f_l), (3, .sc (.int .i64 ((i : Nat) : Int))), (9, .sc (.bool (decide (((i : Nat) : Int) < (((List.map Act.av l).length : Nat) : Int)))))]) (h' := []) (by kernel_rfl) ?_
    refine AR.cond (.tmp 9) (decide (((i : Nat) : Int) < (((List.map Act.av l).length : Nat) : Int))) (by kernel_rfl) (by kernel_rfl) (fun hb => ?ht130) (fun hb => ?hf130)
    case ht130 => exact absurd (hb.symm.trans hc) (by decide)
    case hf130 =>
      refine AR.seg hG hm 1 [0] (k' := [.code [1, 1]]) (t' := [(0, .sl 60 (List.map Act.av l) f_l)]) (h' := []) (by kernel_rfl) ?_
      refine AR.keep [0] (t' := [(0, .sl 60 (List.map Act.av l) f_l)]) (by kernel_rfl) ?_
      exact J () H.symm
  | cons x rest ih =>
    intro i hd  H
    rw [podestaref04_Acts_l0s] at H
    refine AR.facts 0 rfl fun hf => ?_
    have hlen : l.length ≤ 9223372036854775807 := by have hq := len_ok hf.2.1; rw [List.length_map] at hq; exact hq
    obtain ⟨hlt, hv_i, hd2⟩ := drop_cons hd
    have hc : (decide (((i : Nat) : Int) < (((List.map Act.av l).length : Nat) : Int))) = true := by rw [List.length_map]; exact decide_eq_true (by omega)
    have hw : IntKind.i64.wrap (((i : Nat) : Int) + 1) = ((i + 1 : Nat) : Int) := wrapI_succ (by omega)
    refine AR.seg hG hm 3 [0, 3, 9] (k' := [.code [1, 0, 1, 0, 0, 0, 1], .code [1, 0, 1, 0, 0, 1], .loop [1, 0, 1, 0], .blk 0, .code [1, 1]]) (t' := [(0, .sl 60 (List.map Act.av l) f_l), (3, .sc (.int .i64 ((i : Nat) : Int))), (9, .sc (.bool (decide (((i : Nat) : Int) < (((List.map Act.av l).length : Nat) : Int)))))]) (h' := []) (by kernel_rfl) ?_
    refine AR.cond (.tmp 9) (decide (((i : Nat) : Int) < (((List.map Act.av l).length : Nat) : Int))) (by kernel_rfl) (by kernel_rfl) (fun hb => ?ht131) (fun hb => ?hf131)
    case ht131 =>
      refine AR.seg hG hm 4 [0, 3] (k' := [.code [1, 0, 1, 0, 0, 1, 0, 0, 0], .code [1, 0, 1, 0, 0, 1, 0, 0, 1], .blk 1, .code [1, 0, 1, 0, 0, 1, 1], .loop [1, 0, 1, 0], .blk 0, .code [1, 1]]) (t' := [(0, .sl 60 (List.map Act.av l) f_l), (3, .sc (.int .i64 ((i : Nat) : Int)))]) (h' := []) (by kernel_rfl) ?_
      refine AR.reg hm podestaref04_Acts_k0 (by kernel_rfl) ?_
      refine DK.seg hG 2 [0, 3, 12, 13] (t' := [(0, .sl 60 (List.map Act.av l) f_l), (3, .sc (.int .i64 ((i : Nat) : Int))), (12, .sl 60 (List.map Act.av l) f_l), (13, .sc (.int .i64 ((i : Nat) : Int)))]) (h' := []) (by kernel_rfl) rfl ?_
      refine DK.op' [0, 3, 14] (t' := [(0, .sl 60 (List.map Act.av l) f_l), (3, .sc (.int .i64 ((i : Nat) : Int))), (14, .ep [.sc (.int .i64 x.Kind), .sc (.int .i64 x.Port), .sc (.int .i64 x.Field), .sc (.int .u64 x.Value)] 0 none)]) (h' := []) (LSpec.index' (r := Act.av x) (fs := [.sc (.int .i64 x.Kind), .sc (.int .i64 x.Port), .sc (.int .i64 x.Field), .sc (.int .u64 x.Value)]) hG (rows := List.map Act.av l) (j := ((i : Nat) : Int)) (by kernel_rfl) (ixO_map hv_i _) (by kernel_rfl)) (by kernel_rfl) rfl (by kernel_rfl) rfl ?_
      refine DK.seg hG 3 [0, 3, 4] (t' := [(0, .sl 60 (List.map Act.av l) f_l), (3, .sc (.int .i64 ((i : Nat) : Int))), (4, .ptr 0 0 none)]) (h' := [.box 60 (Act.ch x)]) (by kernel_rfl) rfl ?_
      refine DK.done (by kernel_rfl) (by kernel_rfl) ?_
      refine AR.seg hG hm 8 [0, 3, 4, 5, 17, 18] (k' := [.code [1, 0, 1, 0, 0, 1, 0, 0, 1, 1, 0, 1, 0, 1], .blk 2, .code [1, 0, 1, 0, 0, 1, 0, 0, 1, 1, 1], .blk 1, .code [1, 0, 1, 0, 0, 1, 1], .loop [1, 0, 1, 0], .blk 0, .code [1, 1]]) (t' := [(0, .sl 60 (List.map Act.av l) f_l), (3, .sc (.int .i64 ((i : Nat) : Int))), (4, .ptr 0 0 none), (5, .sc (.bool false)), (17, .sc (.int .i64 x.Kind)), (18, .sc (.bool (x.Kind == 1)))]) (h' := [.box 60 (Act.ch x)]) (by kernel_rfl) ?_
      refine AR.join (.tmp 18) (x.Kind == 1) (k' := [.blk 2, .code [1, 0, 1, 0, 0, 1, 0, 0, 1, 1, 1], .blk 1, .code [1, 0, 1, 0, 0, 1, 1], .loop [1, 0, 1, 0], .blk 0, .code [1, 1]]) (h' := [.box 60 (Act.ch x)]) (by kernel_rfl) (by kernel_rfl) (fun z => [(0, .sl 60 (List.map Act.av l) f_l), (3, .sc (.int .i64 ((i : Nat) : Int))), (5, .sc (.bool (bif z then ((((decide (x.Port ≥ 1)) && (decide (x.Port ≤ 16))) && (x.Field == 0)) && (x.Value == 0)) else (bif (x.Kind == 2) then ((((x.Port == 0) && (decide (x.Field ≥ 0))) && (decide (x.Field < 12))) && (podestaref01_Fits x.Value (sizeT x.Field))) else ((x.Kind == 3) && (((x.Port == 0) && (x.Field == 0)) && (x.Value == 0)))))))]) ?J152 (fun hb J => ?ht152) (fun hb J => ?hf152)
      case ht152 =>
        refine AR.reg hm podestaref04_Acts_k1 (by kernel_rfl) ?_
        refine DK.seg hG 4 [0, 3, 4, 23] (t' := [(0, .sl 60 (List.map Act.av l) f_l), (3, .sc (.int .i64 ((i : Nat) : Int))), (4, .ptr 0 0 none), (23, .sc (.bool (decide (x.Port ≥ 1))))]) (h' := [.box 60 (Act.ch x)]) (by kernel_rfl) rfl ?_
        refine DK.mux 23 (decide (x.Port ≥ 1)) (j := 8) (h' := [.box 60 (Act.ch x)]) (by kernel_rfl) (fun z => [(0, .sl 60 (List.map Act.av l) f_l), (3, .sc (.int .i64 ((i : Nat) : Int))), (4, .ptr 0 0 none), (27, .sc (.bool (z && (decide (x.Port ≤ 16)))))]) ?J153 (fun hb J => ?ht153) (fun hb J => ?hf153)
        case ht153 =>
          exact DK.seg hG 4 [0, 3, 4, 27] (by kernel_rfl) rfl J
        case hf153 =>
          exact DK.seg hG 4 [0, 3, 4, 27] (by kernel_rfl) rfl J
        refine DK.seg hG 1 [0, 3, 4, 28] (t' := [(0, .sl 60 (List.map Act.av l) f_l), (3, .sc (.int .i64 ((i : Nat) : Int))), (4, .ptr 0 0 none), (28, .sc (.bool ((decide (x.Port ≥ 1)) && (decide (x.Port ≤ 16)))))]) (h' := [.box 60 (Act.ch x)]) (by kernel_rfl) rfl ?_
        refine DK.mux 28 ((decide (x.Port ≥ 1)) && (decide (x.Port ≤ 16))) (j := 13) (h' := [.box 60 (Act.ch x)]) (by kernel_rfl) (fun z => [(0, .sl 60 (List.map Act.av l) f_l), (3, .sc (.int .i64 ((i : Nat) : Int))), (4, .ptr 0 0 none), (32, .sc (.bool (z && (x.Field == 0))))]) ?J154 (fun hb J => ?ht154) (fun hb J => ?hf154)
        case ht154 =>
          exact DK.seg hG 4 [0, 3, 4, 32] (by kernel_rfl) rfl J
        case hf154 =>
          exact DK.seg hG 4 [0, 3, 4, 32] (by kernel_rfl) rfl J
        refine DK.seg hG 1 [0, 3, 4, 33] (t' := [(0, .sl 60 (List.map Act.av l) f_l), (3, .sc (.int .i64 ((i : Nat) : Int))), (4, .ptr 0 0 none), (33, .sc (.bool (((decide (x.Port ≥ 1)) && (decide (x.Port ≤ 16))) && (x.Field == 0))))]) (h' := [.box 60 (Act.ch x)]) (by kernel_rfl) rfl ?_
        refine DK.mux 33 (((decide (x.Port ≥ 1)) && (decide (x.Port ≤ 16))) && (x.Field == 0)) (j := 18) (h' := [.box 60 (Act.ch x)]) (by kernel_rfl) (fun z => [(0, .sl 60 (List.map Act.av l) f_l), (3, .sc (.int .i64 ((i : Nat) : Int))), (37, .sc (.bool (z && (x.Value == 0))))]) ?J155 (fun hb J => ?ht155) (fun hb J => ?hf155)
        case ht155 =>
          exact DK.seg hG 4 [0, 3, 37] (by kernel_rfl) rfl J
        case hf155 =>
          exact DK.seg hG 4 [0, 3, 37] (by kernel_rfl) rfl J
        refine DK.seg hG 1 [0, 3, 5] (t' := [(0, .sl 60 (List.map Act.av l) f_l), (3, .sc (.int .i64 ((i : Nat) : Int))), (5, .sc (.bool ((((decide (x.Port ≥ 1)) && (decide (x.Port ≤ 16))) && (x.Field == 0)) && (x.Value == 0))))]) (h' := [.box 60 (Act.ch x)]) (by kernel_rfl) rfl ?_
        refine DK.done (by kernel_rfl) (by kernel_rfl) ?_
        exact AR.seg hG hm 0 [0, 3, 5] (by kernel_rfl) J
      case hf152 =>
        refine AR.seg hG hm 2 [0, 3, 4, 5, 17, 38] (k' := [.code [1, 0, 1, 0, 0, 1, 0, 0, 1, 1, 0, 1, 0, 1, 1, 1], .blk 2, .code [1, 0, 1, 0, 0, 1, 0, 0, 1, 1, 1], .blk 1, .code [1, 0, 1, 0, 0, 1, 1], .loop [1, 0, 1, 0], .blk 0, .code [1, 1]]) (t' := [(0, .sl 60 (List.map Act.av l) f_l), (3, .sc (.int .i64 ((i : Nat) : Int))), (4, .ptr 0 0 none), (5, .sc (.bool false)), (17, .sc (.int .i64 x.Kind)), (38, .sc (.bool (x.Kind == 2)))]) (h' := [.box 60 (Act.ch x)]) (by kernel_rfl) ?_
        refine AR.join (.tmp 38) (x.Kind == 2) (k' := [.blk 2, .code [1, 0, 1, 0, 0, 1, 0, 0, 1, 1, 1], .blk 1, .code [1, 0, 1, 0, 0, 1, 1], .loop [1, 0, 1, 0], .blk 0, .code [1, 1]]) (h' := [.box 60 (Act.ch x)]) (by kernel_rfl) (by kernel_rfl) (fun z => [(0, .sl 60 (List.map Act.av l) f_l), (3, .sc (.int .i64 ((i : Nat) : Int))), (5, .sc (.bool (bif z then ((((x.Port == 0) && (decide (x.Field ≥ 0))) && (decide (x.Field < 12))) && (podestaref01_Fits x.Value (sizeT x.Field))) else ((x.Kind == 3) && (((x.Port == 0) && (x.Field == 0)) && (x.Value == 0))))))]) ?J164 (fun hb J => ?ht164) (fun hb J => ?hf164)
        case ht164 =>
          refine AR.reg hm podestaref04_Acts_k2 (by kernel_rfl) ?_
          refine DK.seg hG 4 [0, 3, 4, 43] (t' := [(0, .sl 60 (List.map Act.av l) f_l), (3, .sc (.int .i64 ((i : Nat) : Int))), (4, .ptr 0 0 none), (43, .sc (.bool (x.Port == 0)))]) (h' := [.box 60 (Act.ch x)]) (by kernel_rfl) rfl ?_
          refine DK.mux 43 (x.Port == 0) (j := 8) (h' := [.box 60 (Act.ch x)]) (by kernel_rfl) (fun z => [(0, .sl 60 (List.map Act.av l) f_l), (3, .sc (.int .i64 ((i : Nat) : Int))), (4, .ptr 0 0 none), (47, .sc (.bool (z && (decide (x.Field ≥ 0)))))]) ?J165 (fun hb J => ?ht165) (fun hb J => ?hf165)
          case ht165 =>
            exact DK.seg hG 4 [0, 3, 4, 47] (by kernel_rfl) rfl J
          case hf165 =>
            exact DK.seg hG 4 [0, 3, 4, 47] (by kernel_rfl) rfl J
          refine DK.seg hG 1 [0, 3, 4, 48] (t' := [(0, .sl 60 (List.map Act.av l) f_l), (3, .sc (.int .i64 ((i : Nat) : Int))), (4, .ptr 0 0 none), (48, .sc (.bool ((x.Port == 0) && (decide (x.Field ≥ 0)))))]) (h' := [.box 60 (Act.ch x)]) (by kernel_rfl) rfl ?_
          refine DK.mux 48 ((x.Port == 0) && (decide (x.Field ≥ 0))) (j := 13) (h' := [.box 60 (Act.ch x)]) (by kernel_rfl) (fun z => [(0, .sl 60 (List.map Act.av l) f_l), (3, .sc (.int .i64 ((i : Nat) : Int))), (4, .ptr 0 0 none), (52, .sc (.bool (z && (decide (x.Field < 12)))))]) ?J166 (fun hb J => ?ht166) (fun hb J => ?hf166)
          case ht166 =>
            exact DK.seg hG 4 [0, 3, 4, 52] (by kernel_rfl) rfl J
          case hf166 =>
            exact DK.seg hG 4 [0, 3, 4, 52] (by kernel_rfl) rfl J
          refine DK.seg hG 1 [0, 3, 4, 53] (t' := [(0, .sl 60 (List.map Act.av l) f_l), (3, .sc (.int .i64 ((i : Nat) : Int))), (4, .ptr 0 0 none), (53, .sc (.bool (((x.Port == 0) && (decide (x.Field ≥ 0))) && (decide (x.Field < 12)))))]) (h' := [.box 60 (Act.ch x)]) (by kernel_rfl) rfl ?_
          refine DK.mux 53 (((x.Port == 0) && (decide (x.Field ≥ 0))) && (decide (x.Field < 12))) (j := 21) (h' := [.box 60 (Act.ch x)]) (by kernel_rfl) (fun z => [(0, .sl 60 (List.map Act.av l) f_l), (3, .sc (.int .i64 ((i : Nat) : Int))), (60, .sc (.bool (z && (podestaref01_Fits x.Value (sizeT x.Field)))))]) ?J167 (fun hb J => ?ht167) (fun hb J => ?hf167)
          case ht167 =>
            refine DK.seg hG 4 [0, 3, 53, 55, 57] (t' := [(0, .sl 60 (List.map Act.av l) f_l), (3, .sc (.int .i64 ((i : Nat) : Int))), (53, .sc (.bool true)), (55, .sc (.int .u64 x.Value)), (57, .sc (.int .i64 x.Field))]) (h' := [.box 60 (Act.ch x)]) (by kernel_rfl) rfl ?_
            refine DK.op' [0, 3, 53, 55, 58] (t' := [(0, .sl 60 (List.map Act.av l) f_l), (3, .sc (.int .i64 ((i : Nat) : Int))), (53, .sc (.bool true)), (55, .sc (.int .u64 x.Value)), (58, .sc (.int .i64 (sizeT x.Field)))]) (h' := [.box 60 (Act.ch x)]) (LSpec.callP' (podestaref01_Size_ok x.Field) (by kernel_rfl)) (by kernel_rfl) rfl (by kernel_rfl) rfl ?_
            refine DK.op' [0, 3, 53, 59] (t' := [(0, .sl 60 (List.map Act.av l) f_l), (3, .sc (.int .i64 ((i : Nat) : Int))), (53, .sc (.bool true)), (59, .sc (.bool (podestaref01_Fits x.Value (sizeT x.Field))))]) (h' := [.box 60 (Act.ch x)]) (LSpec.callP' (podestaref01_Fits_calls x.Value (sizeT x.Field)) (by kernel_rfl)) (by kernel_rfl) rfl (by kernel_rfl) rfl ?_
            exact DK.seg hG 1 [0, 3, 60] (by kernel_rfl) rfl J
          case hf167 =>
            exact DK.seg hG 7 [0, 3, 60] (by kernel_rfl) rfl J
          refine DK.seg hG 1 [0, 3, 5] (t' := [(0, .sl 60 (List.map Act.av l) f_l), (3, .sc (.int .i64 ((i : Nat) : Int))), (5, .sc (.bool ((((x.Port == 0) && (decide (x.Field ≥ 0))) && (decide (x.Field < 12))) && (podestaref01_Fits x.Value (sizeT x.Field)))))]) (h' := [.box 60 (Act.ch x)]) (by kernel_rfl) rfl ?_
          refine DK.done (by kernel_rfl) (by kernel_rfl) ?_
          exact AR.seg hG hm 0 [0, 3, 5] (by kernel_rfl) J
        case hf164 =>
          refine AR.seg hG hm 2 [0, 3, 4, 5, 61] (k' := [.code [1, 0, 1, 0, 0, 1, 0, 0, 1, 1, 0, 1, 0, 1, 1, 1, 1, 1], .blk 2, .code [1, 0, 1, 0, 0, 1, 0, 0, 1, 1, 1], .blk 1, .code [1, 0, 1, 0, 0, 1, 1], .loop [1, 0, 1, 0], .blk 0, .code [1, 1]]) (t' := [(0, .sl 60 (List.map Act.av l) f_l), (3, .sc (.int .i64 ((i : Nat) : Int))), (4, .ptr 0 0 none), (5, .sc (.bool false)), (61, .sc (.bool (x.Kind == 3)))]) (h' := [.box 60 (Act.ch x)]) (by kernel_rfl) ?_
          refine AR.join (.tmp 61) (x.Kind == 3) (k' := [.blk 2, .code [1, 0, 1, 0, 0, 1, 0, 0, 1, 1, 1], .blk 1, .code [1, 0, 1, 0, 0, 1, 1], .loop [1, 0, 1, 0], .blk 0, .code [1, 1]]) (h' := [.box 60 (Act.ch x)]) (by kernel_rfl) (by kernel_rfl) (fun z => [(0, .sl 60 (List.map Act.av l) f_l), (3, .sc (.int .i64 ((i : Nat) : Int))), (5, .sc (.bool (z && (((x.Port == 0) && (x.Field == 0)) && (x.Value == 0)))))]) ?J170 (fun hb J => ?ht170) (fun hb J => ?hf170)
          case ht170 =>
            refine AR.reg hm podestaref04_Acts_k3 (by kernel_rfl) ?_
            refine DK.seg hG 4 [0, 3, 4, 66] (t' := [(0, .sl 60 (List.map Act.av l) f_l), (3, .sc (.int .i64 ((i : Nat) : Int))), (4, .ptr 0 0 none), (66, .sc (.bool (x.Port == 0)))]) (h' := [.box 60 (Act.ch x)]) (by kernel_rfl) rfl ?_
            refine DK.mux 66 (x.Port == 0) (j := 8) (h' := [.box 60 (Act.ch x)]) (by kernel_rfl) (fun z => [(0, .sl 60 (List.map Act.av l) f_l), (3, .sc (.int .i64 ((i : Nat) : Int))), (4, .ptr 0 0 none), (70, .sc (.bool (z && (x.Field == 0))))]) ?J171 (fun hb J => ?ht171) (fun hb J => ?hf171)
            case ht171 =>
              exact DK.seg hG 4 [0, 3, 4, 70] (by kernel_rfl) rfl J
            case hf171 =>
              exact DK.seg hG 4 [0, 3, 4, 70] (by kernel_rfl) rfl J
            refine DK.seg hG 1 [0, 3, 4, 71] (t' := [(0, .sl 60 (List.map Act.av l) f_l), (3, .sc (.int .i64 ((i : Nat) : Int))), (4, .ptr 0 0 none), (71, .sc (.bool ((x.Port == 0) && (x.Field == 0))))]) (h' := [.box 60 (Act.ch x)]) (by kernel_rfl) rfl ?_
            refine DK.mux 71 ((x.Port == 0) && (x.Field == 0)) (j := 13) (h' := [.box 60 (Act.ch x)]) (by kernel_rfl) (fun z => [(0, .sl 60 (List.map Act.av l) f_l), (3, .sc (.int .i64 ((i : Nat) : Int))), (75, .sc (.bool (z && (x.Value == 0))))]) ?J172 (fun hb J => ?ht172) (fun hb J => ?hf172)
            case ht172 =>
              exact DK.seg hG 4 [0, 3, 75] (by kernel_rfl) rfl J
            case hf172 =>
              exact DK.seg hG 4 [0, 3, 75] (by kernel_rfl) rfl J
            refine DK.seg hG 1 [0, 3, 5] (t' := [(0, .sl 60 (List.map Act.av l) f_l), (3, .sc (.int .i64 ((i : Nat) : Int))), (5, .sc (.bool (((x.Port == 0) && (x.Field == 0)) && (x.Value == 0))))]) (h' := [.box 60 (Act.ch x)]) (by kernel_rfl) rfl ?_
            refine DK.done (by kernel_rfl) (by kernel_rfl) ?_
            exact AR.seg hG hm 0 [0, 3, 5] (by kernel_rfl) J
          case hf170 =>
            exact AR.seg hG hm 1 [0, 3, 5] (by kernel_rfl) J
          exact AR.seg hG hm 0 [0, 3, 5] (by kernel_rfl) J
        exact AR.seg hG hm 0 [0, 3, 5] (by kernel_rfl) J
      refine AR.seg hG hm 3 [0, 3, 77] (k' := [.code [1, 0, 1, 0, 0, 1, 0, 0, 1, 1, 1, 1], .blk 1, .code [1, 0, 1, 0, 0, 1, 1], .loop [1, 0, 1, 0], .blk 0, .code [1, 1]]) (t' := [(0, .sl 60 (List.map Act.av l) f_l), (3, .sc (.int .i64 ((i : Nat) : Int))), (77, .sc (.bool (!(bif (x.Kind == 1) then ((((decide (x.Port ≥ 1)) && (decide (x.Port ≤ 16))) && (x.Field == 0)) && (x.Value == 0)) else (bif (x.Kind == 2) then ((((x.Port == 0) && (decide (x.Field ≥ 0))) && (decide (x.Field < 12))) && (podestaref01_Fits x.Value (sizeT x.Field))) else ((x.Kind == 3) && (((x.Port == 0) && (x.Field == 0)) && (x.Value == 0))))))))]) (h' := [.box 60 (Act.ch x)]) (by kernel_rfl) ?_
      refine AR.cond (.tmp 77) (!(bif (x.Kind == 1) then ((((decide (x.Port ≥ 1)) && (decide (x.Port ≤ 16))) && (x.Field == 0)) && (x.Value == 0)) else (bif (x.Kind == 2) then ((((x.Port == 0) && (decide (x.Field ≥ 0))) && (decide (x.Field < 12))) && (podestaref01_Fits x.Value (sizeT x.Field))) else ((x.Kind == 3) && (((x.Port == 0) && (x.Field == 0)) && (x.Value == 0)))))) (by kernel_rfl) (by kernel_rfl) (fun hb => ?ht173) (fun hb => ?hf173)
      case ht173 =>
        replace H := cond_t hb H
        refine AR.seg hG hm 2 [2] (k' := [.code [1, 0, 1, 0, 0, 1, 0, 0, 1, 1, 1, 1, 0, 1], .blk 1, .code [1, 0, 1, 0, 0, 1, 1], .loop [1, 0, 1, 0], .blk 0, .code [1, 1]]) (t' := [(2, .sc (.bool false))]) (h' := [.box 60 (Act.ch x)]) (by kernel_rfl) ?_
        subst H
        obtain rfl := Jr _ rfl
        exact AR.ret0 (fn := Try.f37) hG Try.func37 (by kernel_rfl) hc0 (r0 := .sc (.bool false)) (by kernel_rfl) (WkV.refl _)
      case hf173 =>
        replace H := cond_f hb H
        refine AR.seg hG hm 3 [0, 3] (k' := [.loop [1, 0, 1, 0], .blk 0, .code [1, 1]]) (t' := [(0, .sl 60 (List.map Act.av l) f_l), (3, .sc (.int .i64 (IntKind.i64.wrap (((i : Nat) : Int) + 1))))]) (h' := [.box 60 (Act.ch x)]) (by kernel_rfl) ?_
        refine AR.keep [0, 3] (t' := [(0, .sl 60 (List.map Act.av l) f_l), (3, .sc (.int .i64 (IntKind.i64.wrap (((i : Nat) : Int) + 1))))]) (by kernel_rfl) ?_
        refine AR.drop' 0 hc0 (t' := [(0, .sl 60 (List.map Act.av l) f_l), (3, .sc (.int .i64 (IntKind.i64.wrap (((i : Nat) : Int) + 1))))]) (h' := []) (by kernel_rfl) ?_
        refine AR.loop_round ?_
        rw [hw]
        exact ih (i + 1) hd2 H
    case hf131 => exact absurd (hc.symm.trans hb) (by decide)

def podestaref04_Acts (l : List Act) : Bool :=
  sumG (fun q => q) (podestaref04_Acts_l0s l) fun v =>
  (decide ((((List.map Act.av l).length : Nat) : Int) ≤ 8))
theorem podestaref04_Acts_walk (l : List Act) (f_l : Bool) (r : Bool) (H : podestaref04_Acts l = r) :
    ACalls Try.prog tab.S 37 [.sl 60 (List.map Act.av l) f_l] [] (.sc (.bool r)) [] := by
  have hG := tab_ok
  have hm := mixed
  refine ACalls.of_AR (G := tab) podestaref04_Acts_F (fn := Try.f37) Try.func37 (by kernel_rfl) (by kernel_rfl) (by kernel_rfl) (Nat.le_of_ble_eq_true (by kernel_rfl)) ?_
  intro c0 hc0
  replace hc0 : c0.m.length = 0 := hc0
  rw [podestaref04_Acts] at H
  refine AR.seg hG hm 6 [0, 3] (k' := [.code [1, 0, 1, 0], .blk 0, .code [1, 1]]) (t' := [(0, .sl 60 (List.map Act.av l) f_l), (3, .sc (.int .i64 0))]) (h' := []) (by kernel_rfl) ?_
  rcases sumG_eq H with ⟨v, hv, H⟩ | ⟨r1, hv, hr1⟩
  case inr =>
    refine AR.into (by kernel_rfl) ?_
    replace hr1 : r1 = r := hr1
    subst hr1
    exact podestaref04_Acts_l0_walk l f_l _ c0 hc0 (.inr _) (fun _ e => by cases e) (fun _ e => (Sum.inr.inj e).symm) l 0 rfl hv
  refine AR.into (by kernel_rfl) ?_
  refine podestaref04_Acts_l0_walk l f_l r c0 hc0 (.inl v) (fun w e => ?_) (fun _ e => by cases e) l 0 rfl hv
  have e := Sum.inl.inj e
  subst e
  refine AR.seg hG hm 2 [2] (k' := [.code [1, 1, 1]]) (t' := [(2, .sc (.bool (decide ((((List.map Act.av l).length : Nat) : Int) ≤ 8))))]) (h' := []) (by kernel_rfl) ?_
  subst H
  exact AR.ret0 (fn := Try.f37) hG Try.func37 (by kernel_rfl) hc0 (r0 := .sc (.bool (decide ((((List.map Act.av l).length : Nat) : Int) ≤ 8)))) (by kernel_rfl) (WkV.refl _)
theorem podestaref04_Acts_calls (l : List Act) (f_l : Bool) : ACalls Try.prog tab.S 37 [.sl 60 (List.map Act.av l) f_l] [] (.sc (.bool (podestaref04_Acts l))) [] := podestaref04_Acts_walk l f_l _ rfl

def actOk (x : Act) : Bool := (bif (x.Kind == 1) then ((((decide (x.Port ≥ 1)) && (decide (x.Port ≤ 16))) && (x.Field == 0)) && (x.Value == 0)) else (bif (x.Kind == 2) then ((((x.Port == 0) && (decide (x.Field ≥ 0))) && (decide (x.Field < 12))) && (fitsT x.Field x.Value)) else ((x.Kind == 3) && (((x.Port == 0) && (x.Field == 0)) && (x.Value == 0)))))
def ActsOk (l : List Act) : Bool := l.all actOk && decide (l.length ≤ 8)
theorem refActs_l0s_eq : ∀ (l : List Act), podestaref04_Acts_l0s l = if l.all actOk then .inl () else .inr false
  | [] => rfl
  | x :: l => by
      rw [podestaref04_Acts_l0s, refActs_l0s_eq l, List.all_cons]
      simp only [refFits_eq]
      show (bif (!(actOk x)) then _ else _) = _
      cases actOk x
      · rfl
      · simp only [Bool.not_true, cond_false, Bool.true_and]
theorem refActs_eq (l : List Act) : podestaref04_Acts l = ActsOk l := by
  unfold podestaref04_Acts ActsOk
  rw [refActs_l0s_eq, List.length_map]
  cases l.all actOk
  · rfl
  · simp only [if_true, sumG, Bool.true_and]
    rw [Bool.eq_iff_iff, decide_eq_true_eq, decide_eq_true_eq]
    omega

/-! ### podestaref01.Bits: function 79 -/
noncomputable def podestaref01_Bits_F : Go.Sh.Fn := ⟨79, bodyOf Try.f79, 23⟩
def podestaref01_Bits_k0 : List Kd := [.pure, .pure, .pure, .pure, .pure, .pure, .pure, .pure, .loud, .pure]
def podestaref01_Bits_l0 (v : Int) : Nat → Int → List Bool → Option ((List Bool))
  | 0, _, _ => none
  | m + 1, k1, out =>
    (bif (decide (k1 ≥ 0)) then
    fitO (out.length + [((IntKind.u64.wrap ((BitVec.ofInt 64 (Int.fdiv v (2 ^ (min ((IntKind.u64.wrap k1) : Int).toNat (IntKind.u64).bits))) &&& BitVec.ofInt 64 1).toNat)) == 1)].length) 1 (
    podestaref01_Bits_l0 v m (IntKind.i64.wrap (k1 - 1)) (out ++ [((IntKind.u64.wrap ((BitVec.ofInt 64 (Int.fdiv v (2 ^ (min ((IntKind.u64.wrap k1) : Int).toNat (IntKind.u64).bits))) &&& BitVec.ofInt 64 1).toNat)) == 1)]))
  else
    some out)
theorem podestaref01_Bits_l0_walk (q0 : Nat) (v : Int) (size : Int)  (r : (List Bool)) (c0 : Ctx) (hc0 : c0.m.length = 0) (res : (List Bool)) (J : AR Try.prog tab podestaref01_Bits_F c0 (Rp tab.S c0 (.sl 4 (List.map boolA r) false) []) [.code [1, 1, 1]] [(5, .own 0 1000000)] [.row 4 (List.map boolA res) 1000000 true]) :
    ∀ (m : Nat) (k1 : Int) (out : List Bool) (H : podestaref01_Bits_l0 v m k1 out = some res), AR Try.prog tab podestaref01_Bits_F c0 (Rp tab.S c0 (.sl 4 (List.map boolA r) false) []) [.code [1, 1, 0, 1, 0, 0], .loop [1, 1, 0, 1, 0], .blk 0, .code [1, 1, 1]] [(0, .sc (.int .u64 v)), (5, .own 0 1000000), (6, .sc (.int .i64 k1))] [.row 4 (List.map boolA out) 1000000 true] := by
  have hG := tab_ok
  have hm := mixed
  intro m
  induction m with
  | zero => intro k1 out H; cases H
  | succ m ih =>
    intro k1 out H
    rw [podestaref01_Bits_l0] at H
    refine AR.seg hG hm 3 [0, 5, 6, 10] (k' := [.code [1, 1, 0, 1, 0, 0, 0, 1], .code [1, 1, 0, 1, 0, 0, 1], .loop [1, 1, 0, 1, 0], .blk 0, .code [1, 1, 1]]) (t' := [(0, .sc (.int .u64 v)), (5, .own 0 1000000), (6, .sc (.int .i64 k1)), (10, .sc (.bool (decide (k1 ≥ 0))))]) (h' := [.row 4 (List.map boolA out) 1000000 true]) (by kernel_rfl) ?_
    refine AR.cond (.tmp 10) (decide (k1 ≥ 0)) (by kernel_rfl) (by kernel_rfl) (fun hb => ?ht4) (fun hb => ?hf4)
    case ht4 =>
      replace H := cond_t hb H
      refine AR.seg hG hm 3 [0, 5, 6] (k' := [.code [1, 1, 0, 1, 0, 0, 1, 0, 0], .blk 1, .code [1, 1, 0, 1, 0, 0, 1, 1], .loop [1, 1, 0, 1, 0], .blk 0, .code [1, 1, 1]]) (t' := [(0, .sc (.int .u64 v)), (5, .own 0 1000000), (6, .sc (.int .i64 k1))]) (h' := [.row 4 (List.map boolA out) 1000000 true]) (by kernel_rfl) ?_
      refine AR.reg hm podestaref01_Bits_k0 (by kernel_rfl) ?_
      refine DK.seg hG 4 [0, 6, 13, 14, 16] (t' := [(0, .sc (.int .u64 v)), (6, .sc (.int .i64 k1)), (13, .own 0 1000000), (14, .sc (.int .u64 v)), (16, .sc (.int .u64 (IntKind.u64.wrap k1)))]) (h' := [.row 4 (List.map boolA out) 1000000 true]) (by kernel_rfl) rfl ?_
      refine DK.op' [0, 6, 13, 17] (t' := [(0, .sc (.int .u64 v)), (6, .sc (.int .i64 k1)), (13, .own 0 1000000), (17, .sc (.int .u64 (Int.fdiv v (2 ^ (min ((IntKind.u64.wrap k1) : Int).toNat (IntKind.u64).bits)))))]) (h' := [.row 4 (List.map boolA out) 1000000 true]) (LSpec.shr (k := .u64) (a := v) (k' := .u64) (b := (IntKind.u64.wrap k1)) (wrapU_nonneg _) (by kernel_rfl)) (by kernel_rfl) rfl (by kernel_rfl) rfl ?_
      refine DK.seg hG 3 [0, 6, 13, 20] (t' := [(0, .sc (.int .u64 v)), (6, .sc (.int .i64 k1)), (13, .own 0 1000000), (20, .sl 4 (List.map boolA [((IntKind.u64.wrap ((BitVec.ofInt 64 (Int.fdiv v (2 ^ (min ((IntKind.u64.wrap k1) : Int).toNat (IntKind.u64).bits))) &&& BitVec.ofInt 64 1).toNat)) == 1)]) true)]) (h' := [.row 4 (List.map boolA out) 1000000 true]) (by kernel_rfl) rfl ?_
      obtain ⟨hfit, H⟩ := fitO_some H
      refine DK.op' [0, 6, 21] (t' := [(0, .sc (.int .u64 v)), (6, .sc (.int .i64 k1)), (21, .own 0 1000001)]) (h' := [.row 4 (List.map boolA (out ++ [((IntKind.u64.wrap ((BitVec.ofInt 64 (Int.fdiv v (2 ^ (min ((IntKind.u64.wrap k1) : Int).toNat (IntKind.u64).bits))) &&& BitVec.ofInt 64 1).toNat)) == 1)])) 1000001 true]) (LSpec.append' hG boolA out [((IntKind.u64.wrap ((BitVec.ofInt 64 (Int.fdiv v (2 ^ (min ((IntKind.u64.wrap k1) : Int).toNat (IntKind.u64).bits))) &&& BitVec.ofInt 64 1).toNat)) == 1)] 0 1000000 4 1 hfit (by kernel_rfl)) (by kernel_rfl) (by kernel_rfl) (by kernel_rfl) rfl ?_
      refine DK.seg hG 1 [0, 5, 6] (t' := [(0, .sc (.int .u64 v)), (5, .own 0 1000001), (6, .sc (.int .i64 k1))]) (h' := [.row 4 (List.map boolA (out ++ [((IntKind.u64.wrap ((BitVec.ofInt 64 (Int.fdiv v (2 ^ (min ((IntKind.u64.wrap k1) : Int).toNat (IntKind.u64).bits))) &&& BitVec.ofInt 64 1).toNat)) == 1)])) 1000001 true]) (by kernel_rfl) rfl ?_
      refine DK.done (by kernel_rfl) (by kernel_rfl) ?_
      refine AR.seg hG hm 2 [0, 5, 6] (k' := [.loop [1, 1, 0, 1, 0], .blk 0, .code [1, 1, 1]]) (t' := [(0, .sc (.int .u64 v)), (5, .own 0 1000001), (6, .sc (.int .i64 (IntKind.i64.wrap (k1 - 1))))]) (h' := [.row 4 (List.map boolA (out ++ [((IntKind.u64.wrap ((BitVec.ofInt 64 (Int.fdiv v (2 ^ (min ((IntKind.u64.wrap k1) : Int).toNat (IntKind.u64).bits))) &&& BitVec.ofInt 64 1).toNat)) == 1)])) 1000001 true]) (by kernel_rfl) ?_
      refine AR.keep [0, 5, 6] (t' := [(0, .sc (.int .u64 v)), (5, .own 0 1000001), (6, .sc (.int .i64 (IntKind.i64.wrap (k1 - 1))))]) (by kernel_rfl) ?_
      refine AR.norm' 0 1000000 hc0 (t' := [(0, .sc (.int .u64 v)), (5, .own 0 1000000), (6, .sc (.int .i64 (IntKind.i64.wrap (k1 - 1))))]) (h' := [.row 4 (List.map boolA (out ++ [((IntKind.u64.wrap ((BitVec.ofInt 64 (Int.fdiv v (2 ^ (min ((IntKind.u64.wrap k1) : Int).toNat (IntKind.u64).bits))) &&& BitVec.ofInt 64 1).toNat)) == 1)])) 1000000 true]) (by kernel_rfl) ?_
      refine AR.loop_round ?_
      exact ih (IntKind.i64.wrap (k1 - 1)) (out ++ [((IntKind.u64.wrap ((BitVec.ofInt 64 (Int.fdiv v (2 ^ (min ((IntKind.u64.wrap k1) : Int).toNat (IntKind.u64).bits))) &&& BitVec.ofInt 64 1).toNat)) == 1)]) H
    case hf4 =>
      replace H := cond_f hb H
      refine AR.seg hG hm 1 [5] (k' := [.code [1, 1, 1]]) (t' := [(5, .own 0 1000000)]) (h' := [.row 4 (List.map boolA out) 1000000 true]) (by kernel_rfl) ?_
      refine AR.keep [5] (t' := [(5, .own 0 1000000)]) (by kernel_rfl) ?_
      obtain rfl := Option.some.inj H
      exact J
def podestaref01_Bits_raw (q0 : Nat) (v : Int) (size : Int) : Option ((List Bool)) :=
  (podestaref01_Bits_l0 v q0 (IntKind.i64.wrap (size - 1)) ([] : List Bool)).bind fun v1 =>
  some v1
theorem podestaref01_Bits_walk (q0 : Nat) (v : Int) (size : Int) (r : (List Bool)) (H : podestaref01_Bits_raw q0 v size = some r) :
    ACalls Try.prog tab.S 79 [.sc (.int .u64 v), .sc (.int .i64 size)] [] (.sl 4 (List.map boolA r) false) [] := by
  have hG := tab_ok
  have hm := mixed
  refine ACalls.of_AR (G := tab) podestaref01_Bits_F (fn := Try.f79) Try.func79 (by kernel_rfl) (by kernel_rfl) (by kernel_rfl) (Nat.le_of_ble_eq_true (by kernel_rfl)) ?_
  intro c0 hc0
  replace hc0 : c0.m.length = 0 := hc0
  rw [podestaref01_Bits_raw] at H
  refine AR.seg hG hm 8 [0, 5, 6] (k' := [.code [1, 1, 0, 1, 0], .blk 0, .code [1, 1, 1]]) (t' := [(0, .sc (.int .u64 v)), (5, .sl 0 [] true), (6, .sc (.int .i64 (IntKind.i64.wrap (size - 1))))]) (h' := []) (by kernel_rfl) ?_
  refine AR.adoptB' 5 4 (t' := [(5, .own 0 1000000), (0, .sc (.int .u64 v)), (6, .sc (.int .i64 (IntKind.i64.wrap (size - 1))))]) (h' := [.row 4 (List.map boolA ([] : List Bool)) 1000000 true]) (by kernel_rfl) ?_
  refine AR.keep [0, 5, 6] (t' := [(0, .sc (.int .u64 v)), (5, .own 0 1000000), (6, .sc (.int .i64 (IntKind.i64.wrap (size - 1))))]) (by kernel_rfl) ?_
  obtain ⟨v1, hv, H⟩ := Option.bind_eq_some_iff.1 H
  refine AR.into (by kernel_rfl) ?_
  refine podestaref01_Bits_l0_walk q0 v size r c0 hc0 v1 ?_ q0 (IntKind.i64.wrap (size - 1)) ([] : List Bool) hv
  refine AR.seg hG hm 2 [4] (k' := [.code [1, 1, 1, 1]]) (t' := [(4, .own 0 1000000)]) (h' := [.row 4 (List.map boolA v1) 1000000 true]) (by kernel_rfl) ?_
  obtain rfl := Option.some.inj H
  exact AR.ret0 (fn := Try.f79) hG Try.func79 (by kernel_rfl) hc0 (r0 := .sl 4 (List.map boolA v1) false) (by kernel_rfl) (WkV.refl _)

def bitE (v k1 : Int) : Bool := ((IntKind.u64.wrap ((BitVec.ofInt 64 (Int.fdiv v (2 ^ (min ((IntKind.u64.wrap k1) : Int).toNat (IntKind.u64).bits))) &&& BitVec.ofInt 64 1).toNat)) == 1)
def bitsL (v : Int) : Nat → List Bool
  | 0 => []
  | n + 1 => bitE v (n : Int) :: bitsL v n
theorem bitsL_len (v : Int) : ∀ n, (bitsL v n).length = n
  | 0 => rfl
  | n + 1 => by rw [bitsL, List.length_cons, bitsL_len v n]
def bitsO (v size : Int) : Option (List Bool) := if 0 ≤ size ∧ size ≤ 64 then some (bitsL v size.toNat) else none
theorem refBits_l0_eq (v : Int) : ∀ (n m : Nat) (out : List Bool), n < m → n ≤ 64 → out.length + n ≤ 1000 → podestaref01_Bits_l0 v m ((n : Int) - 1) out = some (out ++ bitsL v n)
  | 0, m + 1, out, _, _, _ => by
      rw [podestaref01_Bits_l0, decide_eq_false (by omega), bitsL, List.append_nil]; rfl
  | n + 1, m + 1, out, h1, h2, h3 => by
      have e : (((n + 1 : Nat) : Int) - 1) = (n : Int) := by omega
      rw [podestaref01_Bits_l0, e, decide_eq_true (show ((n : Int)) ≥ 0 by omega), cond_true, fitO_eq (by rw [List.length_cons, List.length_nil]; omega), wrap_eq (by omega) (by omega)]
      rw [refBits_l0_eq v n m _ (by omega) (by omega) (by rw [List.length_append, List.length_cons, List.length_nil]; omega), List.append_assoc]
      rfl
theorem podestaref01_Bits_ok (v size : Int) (x : List Bool) (h : bitsO v size = some x) : ACalls Try.prog tab.S 79 [.sc (.int .u64 v), .sc (.int .i64 size)] [] (.sl 4 (List.map boolA x) false) [] := by
  unfold bitsO at h
  split at h
  · rename_i hc
    injection h with h
    subst h
    refine podestaref01_Bits_walk (size.toNat + 1) v size _ ?_
    rw [podestaref01_Bits_raw, wrap_eq (by omega) (by omega)]
    have := refBits_l0_eq v size.toNat (size.toNat + 1) [] (by omega) (by omega) (by rw [List.length_nil]; omega)
    rw [show ((size.toNat : Nat) : Int) = size by omega] at this
    rw [this]
    rfl
  · cases h

end Go.Proofs.Ytlfiemphadkimaa

set_option linter.unusedVariables false
set_option linter.unusedSimpArgs false
set_option maxRecDepth 100000
set_option maxHeartbeats 4000000
namespace Go.Proofs.Ytlfiemphadkimaa
open Go.Sh
/-! ### podestaref01.Head: function 78 -/
noncomputable def podestaref01_Head_F : Go.Sh.Fn := ⟨78, bodyOf Try.f78, 15⟩
def podestaref01_Head_k0 : List Kd := [.pure, .pure, .read, .pure, .pure, .pure, .pure]
def podestaref01_Head_l0s (h1 : List Int) : Nat → Nat → Sum (Unit) (Bool)
  | 0, i =>
    (.inl ())
  | rest + 1, i =>
    (bif (!(podestaref01_Fits (h1.getD (i) 0) (sizeT ((i : Nat) : Int)))) then
      (.inr false)
    else
      podestaref01_Head_l0s h1 rest (i + 1) )
theorem podestaref01_Head_l0_walk (h1 : List Int) (r : Bool) (c0 : Ctx) (hc0 : c0.m.length = 0) (res : Sum (Unit) (Bool)) (J : ∀ w : Unit, res = .inl w → AR Try.prog tab podestaref01_Head_F c0 (Rp tab.S c0 (.sc (.bool r)) []) [.code [1, 1]] [] [.box 28 [.arr .u64 12 h1]]) (Jr : ∀ w, res = .inr w → w = r) :
    ∀ (rest : Nat) (i : Nat) (hd : i + rest = 12) (H : podestaref01_Head_l0s h1 rest i = res), AR Try.prog tab podestaref01_Head_F c0 (Rp tab.S c0 (.sc (.bool r)) []) [.code [1, 0, 1, 0, 0], .loop [1, 0, 1, 0], .blk 0, .code [1, 1]] [(1, .ptr 0 0 none), (3, .sc (.int .i64 ((i : Nat) : Int)))] [.box 28 [.arr .u64 12 h1]] := by
  have hG := tab_ok
  have hm := mixed
  intro rest
  induction rest with
  | zero =>
    intro i hd  H
    rw [podestaref01_Head_l0s] at H
    have hc : (decide (((i : Nat) : Int) < 12)) = false := decide_eq_false (by omega)
    refine AR.seg hG hm 3 [1, 3, 5] (k' := [.code [1, 0, 1, 0, 0, 0, 1], .code [1, 0, 1, 0, 0, 1], .loop [1, 0, 1, 0], .blk 0, .code [1, 1]]) (t' := [(1, .ptr 0 0 none), (3, .sc (.int .i64 ((i : Nat) : Int))), (5, .sc (.bool (decide (((i : Nat) : Int) < 12))))]) (h' := [.box 28 [.arr .u64 12 h1]]) (by kernel_rfl) ?_
    refine AR.cond (.tmp 5) (decide (((i : Nat) : Int) < 12)) (by kernel_rfl) (by kernel_rfl) (fun hb => ?ht7) (fun hb => ?hf7)
    case ht7 => exact absurd (hb.symm.trans hc) (by decide)
    case hf7 =>
      refine AR.seg hG hm 1 [] (k' := [.code [1, 1]]) (t' := []) (h' := [.box 28 [.arr .u64 12 h1]]) (by kernel_rfl) ?_
      refine AR.keep [] (t' := []) (by kernel_rfl) ?_
      exact J () H.symm
  | succ rest ih =>
    intro i hd  H
    rw [podestaref01_Head_l0s] at H
    have hlt_i : i < 12 := by omega
    have hc : (decide (((i : Nat) : Int) < 12)) = true := decide_eq_true (by omega)
    have hw : IntKind.i64.wrap (((i : Nat) : Int) + 1) = ((i + 1 : Nat) : Int) := wrapI_succ (by omega)
    refine AR.seg hG hm 3 [1, 3, 5] (k' := [.code [1, 0, 1, 0, 0, 0, 1], .code [1, 0, 1, 0, 0, 1], .loop [1, 0, 1, 0], .blk 0, .code [1, 1]]) (t' := [(1, .ptr 0 0 none), (3, .sc (.int .i64 ((i : Nat) : Int))), (5, .sc (.bool (decide (((i : Nat) : Int) < 12))))]) (h' := [.box 28 [.arr .u64 12 h1]]) (by kernel_rfl) ?_
    refine AR.cond (.tmp 5) (decide (((i : Nat) : Int) < 12)) (by kernel_rfl) (by kernel_rfl) (fun hb => ?ht8) (fun hb => ?hf8)
    case ht8 =>
      refine AR.seg hG hm 4 [1, 3] (k' := [.code [1, 0, 1, 0, 0, 1, 0, 0, 0], .code [1, 0, 1, 0, 0, 1, 0, 0, 1], .blk 1, .code [1, 0, 1, 0, 0, 1, 1], .loop [1, 0, 1, 0], .blk 0, .code [1, 1]]) (t' := [(1, .ptr 0 0 none), (3, .sc (.int .i64 ((i : Nat) : Int)))]) (h' := [.box 28 [.arr .u64 12 h1]]) (by kernel_rfl) ?_
      refine AR.reg hm podestaref01_Head_k0 (by kernel_rfl) ?_
      refine DK.seg hG 1 [1, 3, 8] (t' := [(1, .ptr 0 0 none), (3, .sc (.int .i64 ((i : Nat) : Int))), (8, .sc (.int .i64 ((i : Nat) : Int)))]) (h' := [.box 28 [.arr .u64 12 h1]]) (by kernel_rfl) rfl ?_
      have hreq := idx_in 12 hlt_i (by decide)
      refine DK.op' [1, 3, 9] (t' := [(1, .ptr 0 0 none), (3, .sc (.int .i64 ((i : Nat) : Int))), (9, .ptr 0 0 (some (i, 12)))]) (h' := [.box 28 [.arr .u64 12 h1]]) (LSpec.idxPtr (o := 0) (off := 0) (m := 12) (j := ((i : Nat) : Int)) hG hreq (by kernel_rfl)) (by kernel_rfl) rfl (by kernel_rfl) rfl ?_
      refine DK.seg hG 2 [1, 3, 10, 11] (t' := [(1, .ptr 0 0 none), (3, .sc (.int .i64 ((i : Nat) : Int))), (10, .sc (.int .u64 (h1.getD (i) 0))), (11, .sc (.int .i64 ((i : Nat) : Int)))]) (h' := [.box 28 [.arr .u64 12 h1]]) (by kernel_rfl) rfl ?_
      refine DK.op' [1, 3, 10, 12] (t' := [(1, .ptr 0 0 none), (3, .sc (.int .i64 ((i : Nat) : Int))), (10, .sc (.int .u64 (h1.getD (i) 0))), (12, .sc (.int .i64 (sizeT ((i : Nat) : Int))))]) (h' := [.box 28 [.arr .u64 12 h1]]) (LSpec.callP' (podestaref01_Size_ok ((i : Nat) : Int)) (by kernel_rfl)) (by kernel_rfl) rfl (by kernel_rfl) rfl ?_
      refine DK.op' [1, 3, 13] (t' := [(1, .ptr 0 0 none), (3, .sc (.int .i64 ((i : Nat) : Int))), (13, .sc (.bool (podestaref01_Fits (h1.getD (i) 0) (sizeT ((i : Nat) : Int)))))]) (h' := [.box 28 [.arr .u64 12 h1]]) (LSpec.callP' (podestaref01_Fits_calls (h1.getD (i) 0) (sizeT ((i : Nat) : Int))) (by kernel_rfl)) (by kernel_rfl) rfl (by kernel_rfl) rfl ?_
      refine DK.seg hG 1 [1, 3, 14] (t' := [(1, .ptr 0 0 none), (3, .sc (.int .i64 ((i : Nat) : Int))), (14, .sc (.bool (!(podestaref01_Fits (h1.getD (i) 0) (sizeT ((i : Nat) : Int))))))]) (h' := [.box 28 [.arr .u64 12 h1]]) (by kernel_rfl) rfl ?_
      refine DK.done (by kernel_rfl) (by kernel_rfl) ?_
      refine AR.cond (.tmp 14) (!(podestaref01_Fits (h1.getD (i) 0) (sizeT ((i : Nat) : Int)))) (by kernel_rfl) (by kernel_rfl) (fun hb => ?ht9) (fun hb => ?hf9)
      case ht9 =>
        replace H := cond_t hb H
        refine AR.seg hG hm 2 [2] (k' := [.code [1, 0, 1, 0, 0, 1, 0, 0, 1, 0, 1], .blk 1, .code [1, 0, 1, 0, 0, 1, 1], .loop [1, 0, 1, 0], .blk 0, .code [1, 1]]) (t' := [(2, .sc (.bool false))]) (h' := [.box 28 [.arr .u64 12 h1]]) (by kernel_rfl) ?_
        subst H
        obtain rfl := Jr _ rfl
        exact AR.ret0 (fn := Try.f78) hG Try.func78 (by kernel_rfl) hc0 (r0 := .sc (.bool false)) (by kernel_rfl) (WkV.refl _)
      case hf9 =>
        replace H := cond_f hb H
        refine AR.seg hG hm 3 [1, 3] (k' := [.loop [1, 0, 1, 0], .blk 0, .code [1, 1]]) (t' := [(1, .ptr 0 0 none), (3, .sc (.int .i64 (IntKind.i64.wrap (((i : Nat) : Int) + 1))))]) (h' := [.box 28 [.arr .u64 12 h1]]) (by kernel_rfl) ?_
        refine AR.keep [1, 3] (t' := [(1, .ptr 0 0 none), (3, .sc (.int .i64 (IntKind.i64.wrap (((i : Nat) : Int) + 1))))]) (by kernel_rfl) ?_
        refine AR.loop_round ?_
        rw [hw]
        exact ih (i + 1) (by omega) H
    case hf8 => exact absurd (hc.symm.trans hb) (by decide)

def podestaref01_Head (h1 : List Int) : Bool :=
  sumG (fun q => q) (podestaref01_Head_l0s h1 12 0) fun v =>
  true
theorem podestaref01_Head_walk (h1 : List Int) (r : Bool) (H : podestaref01_Head h1 = r) :
    ACalls Try.prog tab.S 78 [.arr .u64 12 h1] [] (.sc (.bool r)) [] := by
  have hG := tab_ok
  have hm := mixed
  refine ACalls.of_AR (G := tab) podestaref01_Head_F (fn := Try.f78) Try.func78 (by kernel_rfl) (by kernel_rfl) (by kernel_rfl) (Nat.le_of_ble_eq_true (by kernel_rfl)) ?_
  intro c0 hc0
  replace hc0 : c0.m.length = 0 := hc0
  rw [podestaref01_Head] at H
  refine AR.seg hG hm 6 [1, 3] (k' := [.code [1, 0, 1, 0], .blk 0, .code [1, 1]]) (t' := [(1, .ptr 0 0 none), (3, .sc (.int .i64 0))]) (h' := [.box 28 [.arr .u64 12 h1]]) (by kernel_rfl) ?_
  rcases sumG_eq H with ⟨v, hv, H⟩ | ⟨r1, hv, hr1⟩
  case inr =>
    refine AR.into (by kernel_rfl) ?_
    replace hr1 : r1 = r := hr1
    subst hr1
    exact podestaref01_Head_l0_walk h1 _ c0 hc0 (.inr _) (fun _ e => by cases e) (fun _ e => (Sum.inr.inj e).symm) 12 0 rfl hv
  refine AR.into (by kernel_rfl) ?_
  refine podestaref01_Head_l0_walk h1 r c0 hc0 (.inl v) (fun w e => ?_) (fun _ e => by cases e) 12 0 rfl hv
  have e := Sum.inl.inj e
  subst e
  refine AR.seg hG hm 2 [2] (k' := [.code [1, 1, 1]]) (t' := [(2, .sc (.bool true))]) (h' := [.box 28 [.arr .u64 12 h1]]) (by kernel_rfl) ?_
  subst H
  exact AR.ret0 (fn := Try.f78) hG Try.func78 (by kernel_rfl) hc0 (r0 := .sc (.bool true)) (by kernel_rfl) (WkV.refl _)
theorem podestaref01_Head_calls (h1 : List Int) : ACalls Try.prog tab.S 78 [.arr .u64 12 h1] [] (.sc (.bool (podestaref01_Head h1))) [] := podestaref01_Head_walk h1 _ rfl

/-! ### podestaref01.Text: function 63 -/
noncomputable def podestaref01_Text_F : Go.Sh.Fn := ⟨63, bodyOf Try.f63, 70⟩
def podestaref01_Text_k4 : List Kd := [.pure, .pure, .loud, .pure]
def podestaref01_Text_k6 : List Kd := [.pure, .pure, .loud, .pure]
def podestaref01_Text_k7 : List Kd := [.pure, .pure, .loud, .pure]
def podestaref01_Text_k5 : List Kd := [.pure, .pure, .pure, .pure, .pure]
def podestaref01_Text_k3 : List Kd := [.pure, .pure, .pure, .pure, .pure, .pure]
def podestaref01_Text_k2 : List Kd := [.pure, .pure, .pure, .read, .pure, .pure, .pure, .pure, .pure, .pure, .read, .pure, .pure, .pure, .pure, .pure]
def podestaref01_Text_k1 : List Kd := [.pure, .pure, .pure, .read, .pure, .pure, .pure, .read, .pure, .pure]
def podestaref01_Text_k8 : List Kd := [.pure, .read, .pure, .pure, .pure]
def podestaref01_Text_k0 : List Kd := [.pure, .read, .pure, .pure]
def podestaref01_Text_l1s (x2 : (List Bool)) (ok1 : Bool) : List Bool → Nat → List Int → Option (Bool × (List Int))
  | [], k1, out1 =>
    some (ok1, out1)
  | x3 :: rest1, k1, out1 =>
    (ixO x2 ((k1 : Nat) : Int)).bind fun x4 =>
    (bif (!x4) then
      fitO (out1.length + [120].length) 1 (
      podestaref01_Text_l1s x2 ok1 rest1 (k1 + 1) (out1 ++ [120]))
    else
      (bif x3 then
        fitO (out1.length + [49].length) 1 (
        podestaref01_Text_l1s x2 ok1 rest1 (k1 + 1) (out1 ++ [49]))
      else
        fitO (out1.length + [48].length) 1 (
        podestaref01_Text_l1s x2 ok1 rest1 (k1 + 1) (out1 ++ [48]))))
theorem podestaref01_Text_l1_walk (c : Cube) (i : Nat) (ok : Bool) (out : List Int) (hlt_i : i < 12) (x1 : (List Bool)) (x2 : (List Bool)) (ok1 : Bool) (r : ByteArray × Bool) (c0 : Ctx) (hc0 : c0.m.length = 0) (res : Bool × (List Int)) (J : AR Try.prog tab podestaref01_Text_F c0 (Rp tab.S c0 (.tup [.sc (.string r.1), .sc (.bool r.2)]) []) [.blk 1, .code [1, 1, 1, 0, 1, 0, 0, 1, 1], .loop [1, 1, 1, 0, 1, 0], .blk 0, .code [1, 1, 1, 1]] [(1, .ptr 0 0 none), (4, .own 1 1000000), (5, .sc (.bool res.1)), (6, .sc (.int .i64 ((i : Nat) : Int)))] [.box 30 (Cube.ch c), .row 5 (List.map (intA .u8) res.2) 1000000 true]) :
    ∀ (rest1 : List Bool) (k1 : Nat) (hd : x1.drop k1 = rest1) (out1 : List Int) (H : podestaref01_Text_l1s x2 ok1 rest1 k1 out1 = some res), AR Try.prog tab podestaref01_Text_F c0 (Rp tab.S c0 (.tup [.sc (.string r.1), .sc (.bool r.2)]) []) [.code [1, 1, 1, 0, 1, 0, 0, 1, 0, 0, 1, 1, 1, 0, 0], .loop [1, 1, 1, 0, 1, 0, 0, 1, 0, 0, 1, 1, 1, 0], .blk 2, .blk 1, .code [1, 1, 1, 0, 1, 0, 0, 1, 1], .loop [1, 1, 1, 0, 1, 0], .blk 0, .code [1, 1, 1, 1]] [(1, .ptr 0 0 none), (4, .own 1 1000000), (5, .sc (.bool ok1)), (6, .sc (.int .i64 ((i : Nat) : Int))), (7, .sl 4 (List.map boolA x1) false), (8, .sl 4 (List.map boolA x2) false), (9, .sc (.int .i64 ((k1 : Nat) : Int)))] [.box 30 (Cube.ch c), .row 5 (List.map (intA .u8) out1) 1000000 true] := by
  have hG := tab_ok
  have hm := mixed
  intro rest1
  induction rest1 with
  | nil =>
    intro k1 hd out1 H
    rw [podestaref01_Text_l1s] at H
    refine AR.facts 7 rfl fun hf => ?_
    have hlen : x1.length ≤ 9223372036854775807 := by have hq := len_ok hf.2.1; rw [List.length_map] at hq; exact hq
    have hge : x1.length ≤ k1 := List.drop_eq_nil_iff.1 hd
    have hc : (decide (((k1 : Nat) : Int) < (((List.map boolA x1).length : Nat) : Int))) = false := by rw [List.length_map]; exact decide_eq_false (by omega)
    refine AR.seg hG hm 3 [1, 4, 5, 6, 7, 8, 9, 44] (k' := [.code [1, 1, 1, 0, 1, 0, 0, 1, 0, 0, 1, 1, 1, 0, 0, 0, 1], .code [1, 1, 1, 0, 1, 0, 0, 1, 0, 0, 1, 1, 1, 0, 0, 1], .loop [1, 1, 1, 0, 1, 0, 0, 1, 0, 0, 1, 1, 1, 0], .blk 2, .blk 1, .code [1, 1, 1, 0, 1, 0, 0, 1, 1], .loop [1, 1, 1, 0, 1, 0], .blk 0, .code [1, 1, 1, 1]]) (t' := [(1, .ptr 0 0 none), (4, .own 1 1000000), (5, .sc (.bool ok1)), (6, .sc (.int .i64 ((i : Nat) : Int))), (7, .sl 4 (List.map boolA x1) false), (8, .sl 4 (List.map boolA x2) false), (9, .sc (.int .i64 ((k1 : Nat) : Int))), (44, .sc (.bool (decide (((k1 : Nat) : Int) < (((List.map boolA x1).length : Nat) : Int)))))]) (h' := [.box 30 (Cube.ch c), .row 5 (List.map (intA .u8) out1) 1000000 true]) (by kernel_rfl) ?_
    refine AR.cond (.tmp 44) (decide (((k1 : Nat) : Int) < (((List.map boolA x1).length : Nat) : Int))) (by kernel_rfl) (by kernel_rfl) (fun hb => ?ht74) (fun hb => ?hf74)
    case ht74 => exact absurd (hb.symm.trans hc) (by decide)
    case hf74 =>
      refine AR.seg hG hm 1 [1, 4, 5, 6] (k' := [.blk 1, .code [1, 1, 1, 0, 1, 0, 0, 1, 1], .loop [1, 1, 1, 0, 1, 0], .blk 0, .code [1, 1, 1, 1]]) (t' := [(1, .ptr 0 0 none), (4, .own 1 1000000), (5, .sc (.bool ok1)), (6, .sc (.int .i64 ((i : Nat) : Int)))]) (h' := [.box 30 (Cube.ch c), .row 5 (List.map (intA .u8) out1) 1000000 true]) (by kernel_rfl) ?_
      refine AR.keep [1, 4, 5, 6] (t' := [(1, .ptr 0 0 none), (4, .own 1 1000000), (5, .sc (.bool ok1)), (6, .sc (.int .i64 ((i : Nat) : Int)))]) (by kernel_rfl) ?_
      obtain rfl := Option.some.inj H
      exact J
  | cons x3 rest1 ih =>
    intro k1 hd out1 H
    rw [podestaref01_Text_l1s] at H
    refine AR.facts 7 rfl fun hf => ?_
    have hlen : x1.length ≤ 9223372036854775807 := by have hq := len_ok hf.2.1; rw [List.length_map] at hq; exact hq
    obtain ⟨hlt, hv_k1, hd2⟩ := drop_cons hd
    have hc : (decide (((k1 : Nat) : Int) < (((List.map boolA x1).length : Nat) : Int))) = true := by rw [List.length_map]; exact decide_eq_true (by omega)
    have hw : IntKind.i64.wrap (((k1 : Nat) : Int) + 1) = ((k1 + 1 : Nat) : Int) := wrapI_succ (by omega)
    refine AR.seg hG hm 3 [1, 4, 5, 6, 7, 8, 9, 44] (k' := [.code [1, 1, 1, 0, 1, 0, 0, 1, 0, 0, 1, 1, 1, 0, 0, 0, 1], .code [1, 1, 1, 0, 1, 0, 0, 1, 0, 0, 1, 1, 1, 0, 0, 1], .loop [1, 1, 1, 0, 1, 0, 0, 1, 0, 0, 1, 1, 1, 0], .blk 2, .blk 1, .code [1, 1, 1, 0, 1, 0, 0, 1, 1], .loop [1, 1, 1, 0, 1, 0], .blk 0, .code [1, 1, 1, 1]]) (t' := [(1, .ptr 0 0 none), (4, .own 1 1000000), (5, .sc (.bool ok1)), (6, .sc (.int .i64 ((i : Nat) : Int))), (7, .sl 4 (List.map boolA x1) false), (8, .sl 4 (List.map boolA x2) false), (9, .sc (.int .i64 ((k1 : Nat) : Int))), (44, .sc (.bool (decide (((k1 : Nat) : Int) < (((List.map boolA x1).length : Nat) : Int)))))]) (h' := [.box 30 (Cube.ch c), .row 5 (List.map (intA .u8) out1) 1000000 true]) (by kernel_rfl) ?_
    refine AR.cond (.tmp 44) (decide (((k1 : Nat) : Int) < (((List.map boolA x1).length : Nat) : Int))) (by kernel_rfl) (by kernel_rfl) (fun hb => ?ht75) (fun hb => ?hf75)
    case ht75 =>
      refine AR.seg hG hm 5 [1, 4, 5, 6, 7, 8, 9] (k' := [.code [1, 1, 1, 0, 1, 0, 0, 1, 0, 0, 1, 1, 1, 0, 0, 1, 0, 0, 0, 0], .code [1, 1, 1, 0, 1, 0, 0, 1, 0, 0, 1, 1, 1, 0, 0, 1, 0, 0, 0, 1], .blk 4, .blk 3, .code [1, 1, 1, 0, 1, 0, 0, 1, 0, 0, 1, 1, 1, 0, 0, 1, 1], .loop [1, 1, 1, 0, 1, 0, 0, 1, 0, 0, 1, 1, 1, 0], .blk 2, .blk 1, .code [1, 1, 1, 0, 1, 0, 0, 1, 1], .loop [1, 1, 1, 0, 1, 0], .blk 0, .code [1, 1, 1, 1]]) (t' := [(1, .ptr 0 0 none), (4, .own 1 1000000), (5, .sc (.bool ok1)), (6, .sc (.int .i64 ((i : Nat) : Int))), (7, .sl 4 (List.map boolA x1) false), (8, .sl 4 (List.map boolA x2) false), (9, .sc (.int .i64 ((k1 : Nat) : Int)))]) (h' := [.box 30 (Cube.ch c), .row 5 (List.map (intA .u8) out1) 1000000 true]) (by kernel_rfl) ?_
      refine AR.reg hm podestaref01_Text_k3 (by kernel_rfl) ?_
      refine DK.seg hG 2 [1, 4, 5, 6, 7, 8, 9, 51, 52] (t' := [(1, .ptr 0 0 none), (4, .own 1 1000000), (5, .sc (.bool ok1)), (6, .sc (.int .i64 ((i : Nat) : Int))), (7, .sl 4 (List.map boolA x1) false), (8, .sl 4 (List.map boolA x2) false), (9, .sc (.int .i64 ((k1 : Nat) : Int))), (51, .sl 4 (List.map boolA x2) false), (52, .sc (.int .i64 ((k1 : Nat) : Int)))]) (h' := [.box 30 (Cube.ch c), .row 5 (List.map (intA .u8) out1) 1000000 true]) (by kernel_rfl) rfl ?_
      obtain ⟨x4, hv, H⟩ := Option.bind_eq_some_iff.1 H
      refine DK.op' [1, 4, 5, 6, 7, 8, 9, 53] (t' := [(1, .ptr 0 0 none), (4, .own 1 1000000), (5, .sc (.bool ok1)), (6, .sc (.int .i64 ((i : Nat) : Int))), (7, .sl 4 (List.map boolA x1) false), (8, .sl 4 (List.map boolA x2) false), (9, .sc (.int .i64 ((k1 : Nat) : Int))), (53, .ep [.sc (.bool x4)] 0 none)]) (h' := [.box 30 (Cube.ch c), .row 5 (List.map (intA .u8) out1) 1000000 true]) (LSpec.index' (r := .sc (.bool x4)) (fs := [.sc (.bool x4)]) hG (rows := List.map boolA x2) (j := ((k1 : Nat) : Int)) (by kernel_rfl) (ixO_map hv _) (by kernel_rfl)) (by kernel_rfl) rfl (by kernel_rfl) rfl ?_
      refine DK.seg hG 3 [1, 4, 5, 6, 7, 8, 9, 50] (t' := [(1, .ptr 0 0 none), (4, .own 1 1000000), (5, .sc (.bool ok1)), (6, .sc (.int .i64 ((i : Nat) : Int))), (7, .sl 4 (List.map boolA x1) false), (8, .sl 4 (List.map boolA x2) false), (9, .sc (.int .i64 ((k1 : Nat) : Int))), (50, .sc (.bool (!x4)))]) (h' := [.box 30 (Cube.ch c), .row 5 (List.map (intA .u8) out1) 1000000 true]) (by kernel_rfl) rfl ?_
      refine DK.done (by kernel_rfl) (by kernel_rfl) ?_
      refine AR.cond (.tmp 50) (!x4) (by kernel_rfl) (by kernel_rfl) (fun hb => ?ht76) (fun hb => ?hf76)
      case ht76 =>
        replace H := cond_t hb H
        refine AR.reg hm podestaref01_Text_k4 (by kernel_rfl) ?_
        refine DK.seg hG 2 [1, 5, 6, 7, 8, 9, 56, 57] (t' := [(1, .ptr 0 0 none), (5, .sc (.bool ok1)), (6, .sc (.int .i64 ((i : Nat) : Int))), (7, .sl 4 (List.map boolA x1) false), (8, .sl 4 (List.map boolA x2) false), (9, .sc (.int .i64 ((k1 : Nat) : Int))), (56, .own 1 1000000), (57, .sl 5 (List.map (intA .u8) [120]) true)]) (h' := [.box 30 (Cube.ch c), .row 5 (List.map (intA .u8) out1) 1000000 true]) (by kernel_rfl) rfl ?_
        obtain ⟨hfit, H⟩ := fitO_some H
        refine DK.op' [1, 5, 6, 7, 8, 9, 58] (t' := [(1, .ptr 0 0 none), (5, .sc (.bool ok1)), (6, .sc (.int .i64 ((i : Nat) : Int))), (7, .sl 4 (List.map boolA x1) false), (8, .sl 4 (List.map boolA x2) false), (9, .sc (.int .i64 ((k1 : Nat) : Int))), (58, .own 1 1000001)]) (h' := [.box 30 (Cube.ch c), .row 5 (List.map (intA .u8) (out1 ++ [120])) 1000001 true]) (LSpec.append' hG (intA .u8) out1 [120] 1 1000000 5 1 hfit (by kernel_rfl)) (by kernel_rfl) (by kernel_rfl) (by kernel_rfl) rfl ?_
        refine DK.seg hG 1 [1, 4, 5, 6, 7, 8, 9] (t' := [(1, .ptr 0 0 none), (4, .own 1 1000001), (5, .sc (.bool ok1)), (6, .sc (.int .i64 ((i : Nat) : Int))), (7, .sl 4 (List.map boolA x1) false), (8, .sl 4 (List.map boolA x2) false), (9, .sc (.int .i64 ((k1 : Nat) : Int)))]) (h' := [.box 30 (Cube.ch c), .row 5 (List.map (intA .u8) (out1 ++ [120])) 1000001 true]) (by kernel_rfl) rfl ?_
        refine DK.done (by kernel_rfl) (by kernel_rfl) ?_
        refine AR.seg hG hm 3 [1, 4, 5, 6, 7, 8, 9] (k' := [.loop [1, 1, 1, 0, 1, 0, 0, 1, 0, 0, 1, 1, 1, 0], .blk 2, .blk 1, .code [1, 1, 1, 0, 1, 0, 0, 1, 1], .loop [1, 1, 1, 0, 1, 0], .blk 0, .code [1, 1, 1, 1]]) (t' := [(1, .ptr 0 0 none), (4, .own 1 1000001), (5, .sc (.bool ok1)), (6, .sc (.int .i64 ((i : Nat) : Int))), (7, .sl 4 (List.map boolA x1) false), (8, .sl 4 (List.map boolA x2) false), (9, .sc (.int .i64 (IntKind.i64.wrap (((k1 : Nat) : Int) + 1))))]) (h' := [.box 30 (Cube.ch c), .row 5 (List.map (intA .u8) (out1 ++ [120])) 1000001 true]) (by kernel_rfl) ?_
        refine AR.keep [1, 4, 5, 6, 7, 8, 9] (t' := [(1, .ptr 0 0 none), (4, .own 1 1000001), (5, .sc (.bool ok1)), (6, .sc (.int .i64 ((i : Nat) : Int))), (7, .sl 4 (List.map boolA x1) false), (8, .sl 4 (List.map boolA x2) false), (9, .sc (.int .i64 (IntKind.i64.wrap (((k1 : Nat) : Int) + 1))))]) (by kernel_rfl) ?_
        refine AR.norm' 1 1000000 hc0 (t' := [(1, .ptr 0 0 none), (4, .own 1 1000000), (5, .sc (.bool ok1)), (6, .sc (.int .i64 ((i : Nat) : Int))), (7, .sl 4 (List.map boolA x1) false), (8, .sl 4 (List.map boolA x2) false), (9, .sc (.int .i64 (IntKind.i64.wrap (((k1 : Nat) : Int) + 1))))]) (h' := [.box 30 (Cube.ch c), .row 5 (List.map (intA .u8) (out1 ++ [120])) 1000000 true]) (by kernel_rfl) ?_
        refine AR.loop_round ?_
        rw [hw]
        exact ih (k1 + 1) hd2 (out1 ++ [120]) H
      case hf76 =>
        replace H := cond_f hb H
        refine AR.seg hG hm 1 [1, 4, 5, 6, 7, 8, 9] (k' := [.code [1, 1, 1, 0, 1, 0, 0, 1, 0, 0, 1, 1, 1, 0, 0, 1, 0, 0, 0, 1, 1, 0], .code [1, 1, 1, 0, 1, 0, 0, 1, 0, 0, 1, 1, 1, 0, 0, 1, 0, 0, 0, 1, 1, 1], .blk 4, .blk 3, .code [1, 1, 1, 0, 1, 0, 0, 1, 0, 0, 1, 1, 1, 0, 0, 1, 1], .loop [1, 1, 1, 0, 1, 0, 0, 1, 0, 0, 1, 1, 1, 0], .blk 2, .blk 1, .code [1, 1, 1, 0, 1, 0, 0, 1, 1], .loop [1, 1, 1, 0, 1, 0], .blk 0, .code [1, 1, 1, 1]]) (t' := [(1, .ptr 0 0 none), (4, .own 1 1000000), (5, .sc (.bool ok1)), (6, .sc (.int .i64 ((i : Nat) : Int))), (7, .sl 4 (List.map boolA x1) false), (8, .sl 4 (List.map boolA x2) false), (9, .sc (.int .i64 ((k1 : Nat) : Int)))]) (h' := [.box 30 (Cube.ch c), .row 5 (List.map (intA .u8) out1) 1000000 true]) (by kernel_rfl) ?_
        refine AR.reg hm podestaref01_Text_k5 (by kernel_rfl) ?_
        refine DK.seg hG 2 [1, 4, 5, 6, 7, 8, 9, 60, 61] (t' := [(1, .ptr 0 0 none), (4, .own 1 1000000), (5, .sc (.bool ok1)), (6, .sc (.int .i64 ((i : Nat) : Int))), (7, .sl 4 (List.map boolA x1) false), (8, .sl 4 (List.map boolA x2) false), (9, .sc (.int .i64 ((k1 : Nat) : Int))), (60, .sl 4 (List.map boolA x1) false), (61, .sc (.int .i64 ((k1 : Nat) : Int)))]) (h' := [.box 30 (Cube.ch c), .row 5 (List.map (intA .u8) out1) 1000000 true]) (by kernel_rfl) rfl ?_
        refine DK.op' [1, 4, 5, 6, 7, 8, 9, 62] (t' := [(1, .ptr 0 0 none), (4, .own 1 1000000), (5, .sc (.bool ok1)), (6, .sc (.int .i64 ((i : Nat) : Int))), (7, .sl 4 (List.map boolA x1) false), (8, .sl 4 (List.map boolA x2) false), (9, .sc (.int .i64 ((k1 : Nat) : Int))), (62, .ep [.sc (.bool x3)] 0 none)]) (h' := [.box 30 (Cube.ch c), .row 5 (List.map (intA .u8) out1) 1000000 true]) (LSpec.index' (r := .sc (.bool x3)) (fs := [.sc (.bool x3)]) hG (rows := List.map boolA x1) (j := ((k1 : Nat) : Int)) (by kernel_rfl) (ixO_map hv_k1 _) (by kernel_rfl)) (by kernel_rfl) rfl (by kernel_rfl) rfl ?_
        refine DK.seg hG 2 [1, 4, 5, 6, 7, 8, 9, 59] (t' := [(1, .ptr 0 0 none), (4, .own 1 1000000), (5, .sc (.bool ok1)), (6, .sc (.int .i64 ((i : Nat) : Int))), (7, .sl 4 (List.map boolA x1) false), (8, .sl 4 (List.map boolA x2) false), (9, .sc (.int .i64 ((k1 : Nat) : Int))), (59, .sc (.bool x3))]) (h' := [.box 30 (Cube.ch c), .row 5 (List.map (intA .u8) out1) 1000000 true]) (by kernel_rfl) rfl ?_
        refine DK.done (by kernel_rfl) (by kernel_rfl) ?_
        refine AR.cond (.tmp 59) x3 (by kernel_rfl) (by kernel_rfl) (fun hb => ?ht77) (fun hb => ?hf77)
        case ht77 =>
          replace H := cond_t hb H
          refine AR.reg hm podestaref01_Text_k6 (by kernel_rfl) ?_
          refine DK.seg hG 2 [1, 5, 6, 7, 8, 9, 64, 65] (t' := [(1, .ptr 0 0 none), (5, .sc (.bool ok1)), (6, .sc (.int .i64 ((i : Nat) : Int))), (7, .sl 4 (List.map boolA x1) false), (8, .sl 4 (List.map boolA x2) false), (9, .sc (.int .i64 ((k1 : Nat) : Int))), (64, .own 1 1000000), (65, .sl 5 (List.map (intA .u8) [49]) true)]) (h' := [.box 30 (Cube.ch c), .row 5 (List.map (intA .u8) out1) 1000000 true]) (by kernel_rfl) rfl ?_
          obtain ⟨hfit, H⟩ := fitO_some H
          refine DK.op' [1, 5, 6, 7, 8, 9, 66] (t' := [(1, .ptr 0 0 none), (5, .sc (.bool ok1)), (6, .sc (.int .i64 ((i : Nat) : Int))), (7, .sl 4 (List.map boolA x1) false), (8, .sl 4 (List.map boolA x2) false), (9, .sc (.int .i64 ((k1 : Nat) : Int))), (66, .own 1 1000001)]) (h' := [.box 30 (Cube.ch c), .row 5 (List.map (intA .u8) (out1 ++ [49])) 1000001 true]) (LSpec.append' hG (intA .u8) out1 [49] 1 1000000 5 1 hfit (by kernel_rfl)) (by kernel_rfl) (by kernel_rfl) (by kernel_rfl) rfl ?_
          refine DK.seg hG 1 [1, 4, 5, 6, 7, 8, 9] (t' := [(1, .ptr 0 0 none), (4, .own 1 1000001), (5, .sc (.bool ok1)), (6, .sc (.int .i64 ((i : Nat) : Int))), (7, .sl 4 (List.map boolA x1) false), (8, .sl 4 (List.map boolA x2) false), (9, .sc (.int .i64 ((k1 : Nat) : Int)))]) (h' := [.box 30 (Cube.ch c), .row 5 (List.map (intA .u8) (out1 ++ [49])) 1000001 true]) (by kernel_rfl) rfl ?_
          refine DK.done (by kernel_rfl) (by kernel_rfl) ?_
          refine AR.seg hG hm 3 [1, 4, 5, 6, 7, 8, 9] (k' := [.loop [1, 1, 1, 0, 1, 0, 0, 1, 0, 0, 1, 1, 1, 0], .blk 2, .blk 1, .code [1, 1, 1, 0, 1, 0, 0, 1, 1], .loop [1, 1, 1, 0, 1, 0], .blk 0, .code [1, 1, 1, 1]]) (t' := [(1, .ptr 0 0 none), (4, .own 1 1000001), (5, .sc (.bool ok1)), (6, .sc (.int .i64 ((i : Nat) : Int))), (7, .sl 4 (List.map boolA x1) false), (8, .sl 4 (List.map boolA x2) false), (9, .sc (.int .i64 (IntKind.i64.wrap (((k1 : Nat) : Int) + 1))))]) (h' := [.box 30 (Cube.ch c), .row 5 (List.map (intA .u8) (out1 ++ [49])) 1000001 true]) (by kernel_rfl) ?_
          refine AR.keep [1, 4, 5, 6, 7, 8, 9] (t' := [(1, .ptr 0 0 none), (4, .own 1 1000001), (5, .sc (.bool ok1)), (6, .sc (.int .i64 ((i : Nat) : Int))), (7, .sl 4 (List.map boolA x1) false), (8, .sl 4 (List.map boolA x2) false), (9, .sc (.int .i64 (IntKind.i64.wrap (((k1 : Nat) : Int) + 1))))]) (by kernel_rfl) ?_
          refine AR.norm' 1 1000000 hc0 (t' := [(1, .ptr 0 0 none), (4, .own 1 1000000), (5, .sc (.bool ok1)), (6, .sc (.int .i64 ((i : Nat) : Int))), (7, .sl 4 (List.map boolA x1) false), (8, .sl 4 (List.map boolA x2) false), (9, .sc (.int .i64 (IntKind.i64.wrap (((k1 : Nat) : Int) + 1))))]) (h' := [.box 30 (Cube.ch c), .row 5 (List.map (intA .u8) (out1 ++ [49])) 1000000 true]) (by kernel_rfl) ?_
          refine AR.loop_round ?_
          rw [hw]
          exact ih (k1 + 1) hd2 (out1 ++ [49]) H
        case hf77 =>
          replace H := cond_f hb H
          refine AR.reg hm podestaref01_Text_k7 (by kernel_rfl) ?_
          refine DK.seg hG 2 [1, 5, 6, 7, 8, 9, 47, 48] (t' := [(1, .ptr 0 0 none), (5, .sc (.bool ok1)), (6, .sc (.int .i64 ((i : Nat) : Int))), (7, .sl 4 (List.map boolA x1) false), (8, .sl 4 (List.map boolA x2) false), (9, .sc (.int .i64 ((k1 : Nat) : Int))), (47, .own 1 1000000), (48, .sl 5 (List.map (intA .u8) [48]) true)]) (h' := [.box 30 (Cube.ch c), .row 5 (List.map (intA .u8) out1) 1000000 true]) (by kernel_rfl) rfl ?_
          obtain ⟨hfit, H⟩ := fitO_some H
          refine DK.op' [1, 5, 6, 7, 8, 9, 49] (t' := [(1, .ptr 0 0 none), (5, .sc (.bool ok1)), (6, .sc (.int .i64 ((i : Nat) : Int))), (7, .sl 4 (List.map boolA x1) false), (8, .sl 4 (List.map boolA x2) false), (9, .sc (.int .i64 ((k1 : Nat) : Int))), (49, .own 1 1000001)]) (h' := [.box 30 (Cube.ch c), .row 5 (List.map (intA .u8) (out1 ++ [48])) 1000001 true]) (LSpec.append' hG (intA .u8) out1 [48] 1 1000000 5 1 hfit (by kernel_rfl)) (by kernel_rfl) (by kernel_rfl) (by kernel_rfl) rfl ?_
          refine DK.seg hG 1 [1, 4, 5, 6, 7, 8, 9] (t' := [(1, .ptr 0 0 none), (4, .own 1 1000001), (5, .sc (.bool ok1)), (6, .sc (.int .i64 ((i : Nat) : Int))), (7, .sl 4 (List.map boolA x1) false), (8, .sl 4 (List.map boolA x2) false), (9, .sc (.int .i64 ((k1 : Nat) : Int)))]) (h' := [.box 30 (Cube.ch c), .row 5 (List.map (intA .u8) (out1 ++ [48])) 1000001 true]) (by kernel_rfl) rfl ?_
          refine DK.done (by kernel_rfl) (by kernel_rfl) ?_
          refine AR.seg hG hm 3 [1, 4, 5, 6, 7, 8, 9] (k' := [.loop [1, 1, 1, 0, 1, 0, 0, 1, 0, 0, 1, 1, 1, 0], .blk 2, .blk 1, .code [1, 1, 1, 0, 1, 0, 0, 1, 1], .loop [1, 1, 1, 0, 1, 0], .blk 0, .code [1, 1, 1, 1]]) (t' := [(1, .ptr 0 0 none), (4, .own 1 1000001), (5, .sc (.bool ok1)), (6, .sc (.int .i64 ((i : Nat) : Int))), (7, .sl 4 (List.map boolA x1) false), (8, .sl 4 (List.map boolA x2) false), (9, .sc (.int .i64 (IntKind.i64.wrap (((k1 : Nat) : Int) + 1))))]) (h' := [.box 30 (Cube.ch c), .row 5 (List.map (intA .u8) (out1 ++ [48])) 1000001 true]) (by kernel_rfl) ?_
          refine AR.keep [1, 4, 5, 6, 7, 8, 9] (t' := [(1, .ptr 0 0 none), (4, .own 1 1000001), (5, .sc (.bool ok1)), (6, .sc (.int .i64 ((i : Nat) : Int))), (7, .sl 4 (List.map boolA x1) false), (8, .sl 4 (List.map boolA x2) false), (9, .sc (.int .i64 (IntKind.i64.wrap (((k1 : Nat) : Int) + 1))))]) (by kernel_rfl) ?_
          refine AR.norm' 1 1000000 hc0 (t' := [(1, .ptr 0 0 none), (4, .own 1 1000000), (5, .sc (.bool ok1)), (6, .sc (.int .i64 ((i : Nat) : Int))), (7, .sl 4 (List.map boolA x1) false), (8, .sl 4 (List.map boolA x2) false), (9, .sc (.int .i64 (IntKind.i64.wrap (((k1 : Nat) : Int) + 1))))]) (h' := [.box 30 (Cube.ch c), .row 5 (List.map (intA .u8) (out1 ++ [48])) 1000000 true]) (by kernel_rfl) ?_
          refine AR.loop_round ?_
          rw [hw]
          exact ih (k1 + 1) hd2 (out1 ++ [48]) H
    case hf75 => exact absurd (hc.symm.trans hb) (by decide)

def podestaref01_Text_l0s (c : Cube) : Nat → Nat → Bool → List Int → Option (Bool × (List Int))
  | 0, i, ok, out =>
    some (ok, out)
  | rest + 1, i, ok, out =>
    (bitsO (c.Value.getD (i) 0) (sizeT ((i : Nat) : Int))).bind fun x1 =>
    (bitsO (c.Care.getD (i) 0) (sizeT ((i : Nat) : Int))).bind fun x2 =>
    (podestaref01_Text_l1s x2 (bif ((IntKind.u64.wrap ((BitVec.ofInt 64 (c.Value.getD (i) 0) &&& ~~~ (BitVec.ofInt 64 (c.Care.getD (i) 0))).toNat)) != 0) then false else ok) x1 0 out).bind fun v =>
    podestaref01_Text_l0s c rest (i + 1) v.1 v.2
theorem podestaref01_Text_l0_walk (c : Cube) (r : ByteArray × Bool) (c0 : Ctx) (hc0 : c0.m.length = 0) (res : Bool × (List Int)) (J : AR Try.prog tab podestaref01_Text_F c0 (Rp tab.S c0 (.tup [.sc (.string r.1), .sc (.bool r.2)]) []) [.code [1, 1, 1, 1]] [(4, .own 1 1000000), (5, .sc (.bool res.1))] [.box 30 (Cube.ch c), .row 5 (List.map (intA .u8) res.2) 1000000 true]) :
    ∀ (rest : Nat) (i : Nat) (hd : i + rest = 12) (ok : Bool) (out : List Int) (H : podestaref01_Text_l0s c rest i ok out = some res), AR Try.prog tab podestaref01_Text_F c0 (Rp tab.S c0 (.tup [.sc (.string r.1), .sc (.bool r.2)]) []) [.code [1, 1, 1, 0, 1, 0, 0], .loop [1, 1, 1, 0, 1, 0], .blk 0, .code [1, 1, 1, 1]] [(1, .ptr 0 0 none), (4, .own 1 1000000), (5, .sc (.bool ok)), (6, .sc (.int .i64 ((i : Nat) : Int)))] [.box 30 (Cube.ch c), .row 5 (List.map (intA .u8) out) 1000000 true] := by
  have hG := tab_ok
  have hm := mixed
  intro rest
  induction rest with
  | zero =>
    intro i hd ok out H
    rw [podestaref01_Text_l0s] at H
    have hc : (decide (((i : Nat) : Int) < 12)) = false := decide_eq_false (by omega)
    refine AR.seg hG hm 3 [1, 4, 5, 6, 14] (k' := [.code [1, 1, 1, 0, 1, 0, 0, 0, 1], .code [1, 1, 1, 0, 1, 0, 0, 1], .loop [1, 1, 1, 0, 1, 0], .blk 0, .code [1, 1, 1, 1]]) (t' := [(1, .ptr 0 0 none), (4, .own 1 1000000), (5, .sc (.bool ok)), (6, .sc (.int .i64 ((i : Nat) : Int))), (14, .sc (.bool (decide (((i : Nat) : Int) < 12))))]) (h' := [.box 30 (Cube.ch c), .row 5 (List.map (intA .u8) out) 1000000 true]) (by kernel_rfl) ?_
    refine AR.cond (.tmp 14) (decide (((i : Nat) : Int) < 12)) (by kernel_rfl) (by kernel_rfl) (fun hb => ?ht59) (fun hb => ?hf59)
    case ht59 => exact absurd (hb.symm.trans hc) (by decide)
    case hf59 =>
      refine AR.seg hG hm 1 [4, 5] (k' := [.code [1, 1, 1, 1]]) (t' := [(4, .own 1 1000000), (5, .sc (.bool ok))]) (h' := [.box 30 (Cube.ch c), .row 5 (List.map (intA .u8) out) 1000000 true]) (by kernel_rfl) ?_
      refine AR.keep [4, 5] (t' := [(4, .own 1 1000000), (5, .sc (.bool ok))]) (by kernel_rfl) ?_
      obtain rfl := Option.some.inj H
      exact J
  | succ rest ih =>
    intro i hd ok out H
    rw [podestaref01_Text_l0s] at H
    have hlt_i : i < 12 := by omega
    have hc : (decide (((i : Nat) : Int) < 12)) = true := decide_eq_true (by omega)
    have hw : IntKind.i64.wrap (((i : Nat) : Int) + 1) = ((i + 1 : Nat) : Int) := wrapI_succ (by omega)
    refine AR.seg hG hm 3 [1, 4, 5, 6, 14] (k' := [.code [1, 1, 1, 0, 1, 0, 0, 0, 1], .code [1, 1, 1, 0, 1, 0, 0, 1], .loop [1, 1, 1, 0, 1, 0], .blk 0, .code [1, 1, 1, 1]]) (t' := [(1, .ptr 0 0 none), (4, .own 1 1000000), (5, .sc (.bool ok)), (6, .sc (.int .i64 ((i : Nat) : Int))), (14, .sc (.bool (decide (((i : Nat) : Int) < 12))))]) (h' := [.box 30 (Cube.ch c), .row 5 (List.map (intA .u8) out) 1000000 true]) (by kernel_rfl) ?_
    refine AR.cond (.tmp 14) (decide (((i : Nat) : Int) < 12)) (by kernel_rfl) (by kernel_rfl) (fun hb => ?ht60) (fun hb => ?hf60)
    case ht60 =>
      refine AR.seg hG hm 5 [1, 4, 5, 6] (k' := [.code [1, 1, 1, 0, 1, 0, 0, 1, 0, 0, 0, 0], .code [1, 1, 1, 0, 1, 0, 0, 1, 0, 0, 0, 1], .code [1, 1, 1, 0, 1, 0, 0, 1, 0, 0, 1], .blk 1, .code [1, 1, 1, 0, 1, 0, 0, 1, 1], .loop [1, 1, 1, 0, 1, 0], .blk 0, .code [1, 1, 1, 1]]) (t' := [(1, .ptr 0 0 none), (4, .own 1 1000000), (5, .sc (.bool ok)), (6, .sc (.int .i64 ((i : Nat) : Int)))]) (h' := [.box 30 (Cube.ch c), .row 5 (List.map (intA .u8) out) 1000000 true]) (by kernel_rfl) ?_
      refine AR.reg hm podestaref01_Text_k1 (by kernel_rfl) ?_
      refine DK.seg hG 2 [1, 4, 5, 6, 17, 18] (t' := [(1, .ptr 0 0 none), (4, .own 1 1000000), (5, .sc (.bool ok)), (6, .sc (.int .i64 ((i : Nat) : Int))), (17, .sc (.int .i64 ((i : Nat) : Int))), (18, .ptr 0 0 none)]) (h' := [.box 30 (Cube.ch c), .row 5 (List.map (intA .u8) out) 1000000 true]) (by kernel_rfl) rfl ?_
      have hreq := idx_in 12 hlt_i (by decide)
      refine DK.op' [1, 4, 5, 6, 19] (t' := [(1, .ptr 0 0 none), (4, .own 1 1000000), (5, .sc (.bool ok)), (6, .sc (.int .i64 ((i : Nat) : Int))), (19, .ptr 0 0 (some (i, 12)))]) (h' := [.box 30 (Cube.ch c), .row 5 (List.map (intA .u8) out) 1000000 true]) (LSpec.idxPtr (o := 0) (off := 0) (m := 12) (j := ((i : Nat) : Int)) hG hreq (by kernel_rfl)) (by kernel_rfl) rfl (by kernel_rfl) rfl ?_
      refine DK.seg hG 3 [1, 4, 5, 6, 20, 21, 22] (t' := [(1, .ptr 0 0 none), (4, .own 1 1000000), (5, .sc (.bool ok)), (6, .sc (.int .i64 ((i : Nat) : Int))), (20, .sc (.int .u64 (c.Value.getD (i) 0))), (21, .sc (.int .i64 ((i : Nat) : Int))), (22, .ptr 0 12 none)]) (h' := [.box 30 (Cube.ch c), .row 5 (List.map (intA .u8) out) 1000000 true]) (by kernel_rfl) rfl ?_
      have hreq := idx_in 12 hlt_i (by decide)
      refine DK.op' [1, 4, 5, 6, 20, 23] (t' := [(1, .ptr 0 0 none), (4, .own 1 1000000), (5, .sc (.bool ok)), (6, .sc (.int .i64 ((i : Nat) : Int))), (20, .sc (.int .u64 (c.Value.getD (i) 0))), (23, .ptr 0 12 (some (i, 12)))]) (h' := [.box 30 (Cube.ch c), .row 5 (List.map (intA .u8) out) 1000000 true]) (LSpec.idxPtr (o := 0) (off := 12) (m := 12) (j := ((i : Nat) : Int)) hG hreq (by kernel_rfl)) (by kernel_rfl) rfl (by kernel_rfl) rfl ?_
      refine DK.seg hG 3 [1, 4, 5, 6, 26] (t' := [(1, .ptr 0 0 none), (4, .own 1 1000000), (5, .sc (.bool ok)), (6, .sc (.int .i64 ((i : Nat) : Int))), (26, .sc (.bool ((IntKind.u64.wrap ((BitVec.ofInt 64 (c.Value.getD (i) 0) &&& ~~~ (BitVec.ofInt 64 (c.Care.getD (i) 0))).toNat)) != 0)))]) (h' := [.box 30 (Cube.ch c), .row 5 (List.map (intA .u8) out) 1000000 true]) (by kernel_rfl) rfl ?_
      refine DK.done (by kernel_rfl) (by kernel_rfl) ?_
      refine AR.join (.tmp 26) ((IntKind.u64.wrap ((BitVec.ofInt 64 (c.Value.getD (i) 0) &&& ~~~ (BitVec.ofInt 64 (c.Care.getD (i) 0))).toNat)) != 0) (k' := [.code [1, 1, 1, 0, 1, 0, 0, 1, 0, 0, 1], .blk 1, .code [1, 1, 1, 0, 1, 0, 0, 1, 1], .loop [1, 1, 1, 0, 1, 0], .blk 0, .code [1, 1, 1, 1]]) (h' := [.box 30 (Cube.ch c), .row 5 (List.map (intA .u8) out) 1000000 true]) (by kernel_rfl) (by kernel_rfl) (fun z => [(1, .ptr 0 0 none), (4, .own 1 1000000), (5, .sc (.bool (bif z then false else ok))), (6, .sc (.int .i64 ((i : Nat) : Int)))]) ?J61 (fun hb J => ?ht61) (fun hb J => ?hf61)
      case ht61 =>
        exact AR.seg hG hm 1 [1, 4, 5, 6] (by kernel_rfl) J
      case hf61 =>
        exact AR.seg hG hm 1 [1, 4, 5, 6] (by kernel_rfl) J
      refine AR.seg hG hm 1 [1, 4, 5, 6] (k' := [.code [1, 1, 1, 0, 1, 0, 0, 1, 0, 0, 1, 0], .code [1, 1, 1, 0, 1, 0, 0, 1, 0, 0, 1, 1], .blk 1, .code [1, 1, 1, 0, 1, 0, 0, 1, 1], .loop [1, 1, 1, 0, 1, 0], .blk 0, .code [1, 1, 1, 1]]) (t' := [(1, .ptr 0 0 none), (4, .own 1 1000000), (5, .sc (.bool (bif ((IntKind.u64.wrap ((BitVec.ofInt 64 (c.Value.getD (i) 0) &&& ~~~ (BitVec.ofInt 64 (c.Care.getD (i) 0))).toNat)) != 0) then false else ok))), (6, .sc (.int .i64 ((i : Nat) : Int)))]) (h' := [.box 30 (Cube.ch c), .row 5 (List.map (intA .u8) out) 1000000 true]) (by kernel_rfl) ?_
      refine AR.reg hm podestaref01_Text_k2 (by kernel_rfl) ?_
      refine DK.seg hG 2 [1, 4, 5, 6, 27, 28] (t' := [(1, .ptr 0 0 none), (4, .own 1 1000000), (5, .sc (.bool (bif ((IntKind.u64.wrap ((BitVec.ofInt 64 (c.Value.getD (i) 0) &&& ~~~ (BitVec.ofInt 64 (c.Care.getD (i) 0))).toNat)) != 0) then false else ok))), (6, .sc (.int .i64 ((i : Nat) : Int))), (27, .sc (.int .i64 ((i : Nat) : Int))), (28, .ptr 0 0 none)]) (h' := [.box 30 (Cube.ch c), .row 5 (List.map (intA .u8) out) 1000000 true]) (by kernel_rfl) rfl ?_
      have hreq := idx_in 12 hlt_i (by decide)
      refine DK.op' [1, 4, 5, 6, 29] (t' := [(1, .ptr 0 0 none), (4, .own 1 1000000), (5, .sc (.bool (bif ((IntKind.u64.wrap ((BitVec.ofInt 64 (c.Value.getD (i) 0) &&& ~~~ (BitVec.ofInt 64 (c.Care.getD (i) 0))).toNat)) != 0) then false else ok))), (6, .sc (.int .i64 ((i : Nat) : Int))), (29, .ptr 0 0 (some (i, 12)))]) (h' := [.box 30 (Cube.ch c), .row 5 (List.map (intA .u8) out) 1000000 true]) (LSpec.idxPtr (o := 0) (off := 0) (m := 12) (j := ((i : Nat) : Int)) hG hreq (by kernel_rfl)) (by kernel_rfl) rfl (by kernel_rfl) rfl ?_
      refine DK.seg hG 2 [1, 4, 5, 6, 30, 31] (t' := [(1, .ptr 0 0 none), (4, .own 1 1000000), (5, .sc (.bool (bif ((IntKind.u64.wrap ((BitVec.ofInt 64 (c.Value.getD (i) 0) &&& ~~~ (BitVec.ofInt 64 (c.Care.getD (i) 0))).toNat)) != 0) then false else ok))), (6, .sc (.int .i64 ((i : Nat) : Int))), (30, .sc (.int .u64 (c.Value.getD (i) 0))), (31, .sc (.int .i64 ((i : Nat) : Int)))]) (h' := [.box 30 (Cube.ch c), .row 5 (List.map (intA .u8) out) 1000000 true]) (by kernel_rfl) rfl ?_
      refine DK.op' [1, 4, 5, 6, 30, 32] (t' := [(1, .ptr 0 0 none), (4, .own 1 1000000), (5, .sc (.bool (bif ((IntKind.u64.wrap ((BitVec.ofInt 64 (c.Value.getD (i) 0) &&& ~~~ (BitVec.ofInt 64 (c.Care.getD (i) 0))).toNat)) != 0) then false else ok))), (6, .sc (.int .i64 ((i : Nat) : Int))), (30, .sc (.int .u64 (c.Value.getD (i) 0))), (32, .sc (.int .i64 (sizeT ((i : Nat) : Int))))]) (h' := [.box 30 (Cube.ch c), .row 5 (List.map (intA .u8) out) 1000000 true]) (LSpec.callP' (podestaref01_Size_ok ((i : Nat) : Int)) (by kernel_rfl)) (by kernel_rfl) rfl (by kernel_rfl) rfl ?_
      obtain ⟨x1, hv, H⟩ := Option.bind_eq_some_iff.1 H
      refine DK.op' [1, 4, 5, 6, 33] (t' := [(1, .ptr 0 0 none), (4, .own 1 1000000), (5, .sc (.bool (bif ((IntKind.u64.wrap ((BitVec.ofInt 64 (c.Value.getD (i) 0) &&& ~~~ (BitVec.ofInt 64 (c.Care.getD (i) 0))).toNat)) != 0) then false else ok))), (6, .sc (.int .i64 ((i : Nat) : Int))), (33, .sl 4 (List.map boolA x1) false)]) (h' := [.box 30 (Cube.ch c), .row 5 (List.map (intA .u8) out) 1000000 true]) (LSpec.callP' (podestaref01_Bits_ok (c.Value.getD (i) 0) (sizeT ((i : Nat) : Int)) x1 hv) (by kernel_rfl)) (by kernel_rfl) rfl (by kernel_rfl) rfl ?_
      refine DK.seg hG 2 [1, 4, 5, 6, 33, 34, 35] (t' := [(1, .ptr 0 0 none), (4, .own 1 1000000), (5, .sc (.bool (bif ((IntKind.u64.wrap ((BitVec.ofInt 64 (c.Value.getD (i) 0) &&& ~~~ (BitVec.ofInt 64 (c.Care.getD (i) 0))).toNat)) != 0) then false else ok))), (6, .sc (.int .i64 ((i : Nat) : Int))), (33, .sl 4 (List.map boolA x1) false), (34, .sc (.int .i64 ((i : Nat) : Int))), (35, .ptr 0 12 none)]) (h' := [.box 30 (Cube.ch c), .row 5 (List.map (intA .u8) out) 1000000 true]) (by kernel_rfl) rfl ?_
      have hreq := idx_in 12 hlt_i (by decide)
      refine DK.op' [1, 4, 5, 6, 33, 36] (t' := [(1, .ptr 0 0 none), (4, .own 1 1000000), (5, .sc (.bool (bif ((IntKind.u64.wrap ((BitVec.ofInt 64 (c.Value.getD (i) 0) &&& ~~~ (BitVec.ofInt 64 (c.Care.getD (i) 0))).toNat)) != 0) then false else ok))), (6, .sc (.int .i64 ((i : Nat) : Int))), (33, .sl 4 (List.map boolA x1) false), (36, .ptr 0 12 (some (i, 12)))]) (h' := [.box 30 (Cube.ch c), .row 5 (List.map (intA .u8) out) 1000000 true]) (LSpec.idxPtr (o := 0) (off := 12) (m := 12) (j := ((i : Nat) : Int)) hG hreq (by kernel_rfl)) (by kernel_rfl) rfl (by kernel_rfl) rfl ?_
      refine DK.seg hG 2 [1, 4, 5, 6, 33, 37, 38] (t' := [(1, .ptr 0 0 none), (4, .own 1 1000000), (5, .sc (.bool (bif ((IntKind.u64.wrap ((BitVec.ofInt 64 (c.Value.getD (i) 0) &&& ~~~ (BitVec.ofInt 64 (c.Care.getD (i) 0))).toNat)) != 0) then false else ok))), (6, .sc (.int .i64 ((i : Nat) : Int))), (33, .sl 4 (List.map boolA x1) false), (37, .sc (.int .u64 (c.Care.getD (i) 0))), (38, .sc (.int .i64 ((i : Nat) : Int)))]) (h' := [.box 30 (Cube.ch c), .row 5 (List.map (intA .u8) out) 1000000 true]) (by kernel_rfl) rfl ?_
      refine DK.op' [1, 4, 5, 6, 33, 37, 39] (t' := [(1, .ptr 0 0 none), (4, .own 1 1000000), (5, .sc (.bool (bif ((IntKind.u64.wrap ((BitVec.ofInt 64 (c.Value.getD (i) 0) &&& ~~~ (BitVec.ofInt 64 (c.Care.getD (i) 0))).toNat)) != 0) then false else ok))), (6, .sc (.int .i64 ((i : Nat) : Int))), (33, .sl 4 (List.map boolA x1) false), (37, .sc (.int .u64 (c.Care.getD (i) 0))), (39, .sc (.int .i64 (sizeT ((i : Nat) : Int))))]) (h' := [.box 30 (Cube.ch c), .row 5 (List.map (intA .u8) out) 1000000 true]) (LSpec.callP' (podestaref01_Size_ok ((i : Nat) : Int)) (by kernel_rfl)) (by kernel_rfl) rfl (by kernel_rfl) rfl ?_
      obtain ⟨x2, hv, H⟩ := Option.bind_eq_some_iff.1 H
      refine DK.op' [1, 4, 5, 6, 33, 40] (t' := [(1, .ptr 0 0 none), (4, .own 1 1000000), (5, .sc (.bool (bif ((IntKind.u64.wrap ((BitVec.ofInt 64 (c.Value.getD (i) 0) &&& ~~~ (BitVec.ofInt 64 (c.Care.getD (i) 0))).toNat)) != 0) then false else ok))), (6, .sc (.int .i64 ((i : Nat) : Int))), (33, .sl 4 (List.map boolA x1) false), (40, .sl 4 (List.map boolA x2) false)]) (h' := [.box 30 (Cube.ch c), .row 5 (List.map (intA .u8) out) 1000000 true]) (LSpec.callP' (podestaref01_Bits_ok (c.Care.getD (i) 0) (sizeT ((i : Nat) : Int)) x2 hv) (by kernel_rfl)) (by kernel_rfl) rfl (by kernel_rfl) rfl ?_
      refine DK.seg hG 2 [1, 4, 5, 6, 7, 8] (t' := [(1, .ptr 0 0 none), (4, .own 1 1000000), (5, .sc (.bool (bif ((IntKind.u64.wrap ((BitVec.ofInt 64 (c.Value.getD (i) 0) &&& ~~~ (BitVec.ofInt 64 (c.Care.getD (i) 0))).toNat)) != 0) then false else ok))), (6, .sc (.int .i64 ((i : Nat) : Int))), (7, .sl 4 (List.map boolA x1) false), (8, .sl 4 (List.map boolA x2) false)]) (h' := [.box 30 (Cube.ch c), .row 5 (List.map (intA .u8) out) 1000000 true]) (by kernel_rfl) rfl ?_
      refine DK.done (by kernel_rfl) (by kernel_rfl) ?_
      refine AR.seg hG hm 3 [1, 4, 5, 6, 7, 8, 9] (k' := [.code [1, 1, 1, 0, 1, 0, 0, 1, 0, 0, 1, 1, 1, 0], .blk 2, .blk 1, .code [1, 1, 1, 0, 1, 0, 0, 1, 1], .loop [1, 1, 1, 0, 1, 0], .blk 0, .code [1, 1, 1, 1]]) (t' := [(1, .ptr 0 0 none), (4, .own 1 1000000), (5, .sc (.bool (bif ((IntKind.u64.wrap ((BitVec.ofInt 64 (c.Value.getD (i) 0) &&& ~~~ (BitVec.ofInt 64 (c.Care.getD (i) 0))).toNat)) != 0) then false else ok))), (6, .sc (.int .i64 ((i : Nat) : Int))), (7, .sl 4 (List.map boolA x1) false), (8, .sl 4 (List.map boolA x2) false), (9, .sc (.int .i64 0))]) (h' := [.box 30 (Cube.ch c), .row 5 (List.map (intA .u8) out) 1000000 true]) (by kernel_rfl) ?_
      obtain ⟨v, hv, H⟩ := Option.bind_eq_some_iff.1 H
      refine AR.into (by kernel_rfl) ?_
      refine podestaref01_Text_l1_walk c i ok out hlt_i x1 x2 (bif ((IntKind.u64.wrap ((BitVec.ofInt 64 (c.Value.getD (i) 0) &&& ~~~ (BitVec.ofInt 64 (c.Care.getD (i) 0))).toNat)) != 0) then false else ok) r c0 hc0 v ?_ x1 0 rfl out hv
      refine AR.seg hG hm 2 [1, 4, 5, 6] (k' := [.loop [1, 1, 1, 0, 1, 0], .blk 0, .code [1, 1, 1, 1]]) (t' := [(1, .ptr 0 0 none), (4, .own 1 1000000), (5, .sc (.bool v.1)), (6, .sc (.int .i64 (IntKind.i64.wrap (((i : Nat) : Int) + 1))))]) (h' := [.box 30 (Cube.ch c), .row 5 (List.map (intA .u8) v.2) 1000000 true]) (by kernel_rfl) ?_
      refine AR.keep [1, 4, 5, 6] (t' := [(1, .ptr 0 0 none), (4, .own 1 1000000), (5, .sc (.bool v.1)), (6, .sc (.int .i64 (IntKind.i64.wrap (((i : Nat) : Int) + 1))))]) (by kernel_rfl) ?_
      refine AR.loop_round ?_
      rw [hw]
      exact ih (i + 1) (by omega) v.1 v.2 H
    case hf60 => exact absurd (hc.symm.trans hb) (by decide)

def podestaref01_Text_raw (c : Cube) : Option (ByteArray × Bool) :=
  (podestaref01_Text_l0s c 12 0 (podestaref01_Head c.Care) ([] : List Int)).bind fun v =>
  some ((strOfNums v.2), v.1)
theorem podestaref01_Text_walk (c : Cube) (r : ByteArray × Bool) (H : podestaref01_Text_raw c = some r) :
    ACalls Try.prog tab.S 63 [Cube.av c] [] (.tup [.sc (.string r.1), .sc (.bool r.2)]) [] := by
  have hG := tab_ok
  have hm := mixed
  refine ACalls.of_AR (G := tab) podestaref01_Text_F (fn := Try.f63) Try.func63 (by kernel_rfl) (by kernel_rfl) (by kernel_rfl) (Nat.le_of_ble_eq_true (by kernel_rfl)) ?_
  intro c0 hc0
  replace hc0 : c0.m.length = 0 := hc0
  rw [podestaref01_Text_raw] at H
  refine AR.seg hG hm 5 [1, 4] (k' := [.code [1, 1, 0], .code [1, 1, 1]]) (t' := [(1, .ptr 0 0 none), (4, .sl 0 [] true)]) (h' := [.box 30 (Cube.ch c)]) (by kernel_rfl) ?_
  refine AR.reg hm podestaref01_Text_k0 (by kernel_rfl) ?_
  refine DK.seg hG 2 [1, 4, 11] (t' := [(1, .ptr 0 0 none), (4, .sl 0 [] true), (11, .arr .u64 12 c.Care)]) (h' := [.box 30 (Cube.ch c)]) (by kernel_rfl) rfl ?_
  refine DK.op' [1, 4, 12] (t' := [(1, .ptr 0 0 none), (4, .sl 0 [] true), (12, .sc (.bool (podestaref01_Head c.Care)))]) (h' := [.box 30 (Cube.ch c)]) (LSpec.callP' (podestaref01_Head_calls c.Care) (by kernel_rfl)) (by kernel_rfl) rfl (by kernel_rfl) rfl ?_
  refine DK.seg hG 1 [1, 4, 5] (t' := [(1, .ptr 0 0 none), (4, .sl 0 [] true), (5, .sc (.bool (podestaref01_Head c.Care)))]) (h' := [.box 30 (Cube.ch c)]) (by kernel_rfl) rfl ?_
  refine DK.done (by kernel_rfl) (by kernel_rfl) ?_
  refine AR.seg hG hm 4 [1, 4, 5, 6] (k' := [.code [1, 1, 1, 0, 1, 0], .blk 0, .code [1, 1, 1, 1]]) (t' := [(1, .ptr 0 0 none), (4, .sl 0 [] true), (5, .sc (.bool (podestaref01_Head c.Care))), (6, .sc (.int .i64 0))]) (h' := [.box 30 (Cube.ch c)]) (by kernel_rfl) ?_
  refine AR.adoptB' 4 5 (t' := [(4, .own 1 1000000), (1, .ptr 0 0 none), (5, .sc (.bool (podestaref01_Head c.Care))), (6, .sc (.int .i64 0))]) (h' := [.box 30 (Cube.ch c), .row 5 (List.map (intA .u8) ([] : List Int)) 1000000 true]) (by kernel_rfl) ?_
  refine AR.keep [1, 4, 5, 6] (t' := [(1, .ptr 0 0 none), (4, .own 1 1000000), (5, .sc (.bool (podestaref01_Head c.Care))), (6, .sc (.int .i64 0))]) (by kernel_rfl) ?_
  obtain ⟨v, hv, H⟩ := Option.bind_eq_some_iff.1 H
  refine AR.into (by kernel_rfl) ?_
  refine podestaref01_Text_l0_walk c r c0 hc0 v ?_ 12 0 rfl (podestaref01_Head c.Care) ([] : List Int) hv
  refine AR.seg hG hm 1 [4, 5] (k' := [.code [1, 1, 1, 1, 0], .code [1, 1, 1, 1, 1]]) (t' := [(4, .own 1 1000000), (5, .sc (.bool v.1))]) (h' := [.box 30 (Cube.ch c), .row 5 (List.map (intA .u8) v.2) 1000000 true]) (by kernel_rfl) ?_
  refine AR.reg hm podestaref01_Text_k8 (by kernel_rfl) ?_
  refine DK.seg hG 1 [5, 67] (t' := [(5, .sc (.bool v.1)), (67, .own 1 1000000)]) (h' := [.box 30 (Cube.ch c), .row 5 (List.map (intA .u8) v.2) 1000000 true]) (by kernel_rfl) rfl ?_
  refine DK.op' [5, 68] (t' := [(5, .sc (.bool v.1)), (68, .sc (.string (strOfNums v.2)))]) (h' := [.box 30 (Cube.ch c), .row 5 (List.map (intA .u8) v.2) 1000000 true]) (LSpec.bytesStr hG v.2 (by kernel_rfl)) (by kernel_rfl) rfl (by kernel_rfl) rfl ?_
  refine DK.seg hG 3 [2, 3] (t' := [(2, .sc (.string (strOfNums v.2))), (3, .sc (.bool v.1))]) (h' := [.box 30 (Cube.ch c), .row 5 (List.map (intA .u8) v.2) 1000000 true]) (by kernel_rfl) rfl ?_
  refine DK.done (by kernel_rfl) (by kernel_rfl) ?_
  obtain rfl := Option.some.inj H
  exact AR.ret0 (fn := Try.f63) hG Try.func63 (by kernel_rfl) hc0 (r0 := .tup [.sc (.string (strOfNums v.2)), .sc (.bool v.1)]) (by kernel_rfl) (WkV.refl _)

def chrB (v c : Bool) : Int := if c then (if v then 49 else 48) else 120
theorem Text_l1s_eq (x2 : List Bool) (ok : Bool) : ∀ (vs : List Bool) (k : Nat) (out : List Int), k + vs.length = x2.length → out.length + vs.length ≤ 10000 → podestaref01_Text_l1s x2 ok vs k out = some (ok, out ++ List.zipWith chrB vs (x2.drop k))
  | [], k, out, _, _ => by rw [podestaref01_Text_l1s]; simp
  | x :: vs, k, out, h1, h2 => by
      rw [List.length_cons] at h1 h2
      have hk : k < x2.length := by omega
      have step : ∀ q : Int, podestaref01_Text_l1s x2 ok vs (k + 1) (out ++ [q]) = some (ok, out ++ q :: List.zipWith chrB vs (x2.drop (k + 1))) := fun q => by
        rw [Text_l1s_eq x2 ok vs (k + 1) (out ++ [q]) (by omega) (by rw [List.length_append, List.length_cons, List.length_nil]; omega), List.append_assoc]; rfl
      rw [podestaref01_Text_l1s, ixO_lt hk, Option.bind_some, List.drop_eq_getElem_cons hk, List.zipWith_cons_cons, fitO_eq (by rw [List.length_cons, List.length_nil]; omega), fitO_eq (by rw [List.length_cons, List.length_nil]; omega), fitO_eq (by rw [List.length_cons, List.length_nil]; omega)]
      cases x2[k]
      · exact step 120
      · cases x
        · exact step 48
        · exact step 49
def badAt (c : Cube) (i : Nat) : Bool := ((IntKind.u64.wrap ((BitVec.ofInt 64 (c.Value.getD i 0) &&& ~~~ (BitVec.ofInt 64 (c.Care.getD i 0))).toNat)) != 0)
def textOk (c : Cube) : Nat → Nat → Bool → Bool
  | 0, _, ok => ok
  | r + 1, i, ok => textOk c r (i + 1) (bif badAt c i then false else ok)
def sizeN (i : Nat) : Nat := (sizeT ((i : Nat) : Int)).toNat
def textS (c : Cube) : Nat → Nat → List Int
  | 0, _ => []
  | r + 1, i => List.zipWith chrB (bitsL (c.Value.getD i 0) (sizeN i)) (bitsL (c.Care.getD i 0) (sizeN i)) ++ textS c r (i + 1)
theorem bitsO_size (v : Int) (i : Nat) : bitsO v (sizeT ((i : Nat) : Int)) = some (bitsL v (sizeN i)) := by
  have h := sizeT_in ((i : Nat) : Int)
  unfold bitsO sizeN
  rw [if_pos (by omega)]
theorem Text_l0s_eq (c : Cube) : ∀ (r i : Nat) (ok : Bool) (out : List Int), out.length + r * 64 ≤ 10000 → podestaref01_Text_l0s c r i ok out = some (textOk c r i ok, out ++ textS c r i)
  | 0, i, ok, out, _ => by rw [podestaref01_Text_l0s, textOk, textS, List.append_nil]
  | r + 1, i, ok, out, h => by
      have hs := sizeT_in ((i : Nat) : Int)
      have hn : sizeN i ≤ 64 := by unfold sizeN; omega
      rw [podestaref01_Text_l0s, bitsO_size, bitsO_size, Option.bind_some, Option.bind_some, Text_l1s_eq _ _ _ 0 out (by rw [bitsL_len, bitsL_len, Nat.zero_add]) (by rw [bitsL_len]; omega), Option.bind_some, List.drop_zero]
      show podestaref01_Text_l0s c r (i + 1) _ (out ++ _) = _
      rw [Text_l0s_eq c r (i + 1) _ _ (by rw [List.length_append, List.length_zipWith, bitsL_len, bitsL_len]; omega), textOk, textS, List.append_assoc]
      rfl
def textT (c : Cube) : ByteArray × Bool := (strOfNums (textS c 12 0), textOk c 12 0 (podestaref01_Head c.Care))
theorem podestaref01_Text_ok (c : Cube) : ACalls Try.prog tab.S 63 [Cube.av c] [] (.tup [.sc (.string (textT c).1), .sc (.bool (textT c).2)]) [] := by
  refine podestaref01_Text_walk c _ ?_
  rw [podestaref01_Text_raw, Text_l0s_eq c 12 0 _ [] (by decide)]
  rfl

end Go.Proofs.Ytlfiemphadkimaa

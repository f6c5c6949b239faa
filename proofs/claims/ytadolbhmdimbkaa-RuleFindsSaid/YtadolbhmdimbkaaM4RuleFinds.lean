import Derived.Test.YtadolbhmdimbkaaM3RuleFinds
set_option linter.unusedVariables false
set_option linter.unusedSimpArgs false
set_option maxRecDepth 100000
set_option maxHeartbeats 4000000
namespace Go.Proofs.Ytadolbhmdimbkaa
open Go.Sh
/-! ### podestaref01.Size: function 54 -/
noncomputable def podestaref01_Size_F : Go.Sh.Fn := ⟨54, bodyOf Try.f54, 13⟩
def podestaref01_Size_k1 : List Kd := [.pure, .pure, .pure, .pure, .pure]
def podestaref01_Size_k0 : List Kd := [.pure, .pure, .pure, .pure, .pure, .pure]
def podestaref01_Size_raw (field : Int) : Option (Int) :=
  (bif ((decide (field < 0)) || (decide (field > 11))) then
    some 0
  else
    (ixO [16, 48, 48, 16, 12, 4, 32, 32, 8, 8, 12, 12] field).bind fun x =>
    some x)
theorem podestaref01_Size_walk (field : Int) (r : Int) (H : podestaref01_Size_raw field = some r) :
    ACalls Try.prog tab.S 54 [.sc (.int .i64 field)] [] (.sc (.int .i64 r)) [] := by
  have hG := tab_ok
  have hm := mixed
  refine ACalls.of_AR (G := tab) podestaref01_Size_F (fn := Try.f54) Try.func54 (by kernel_rfl) (by kernel_rfl) (by kernel_rfl) (Nat.le_of_ble_eq_true (by kernel_rfl)) ?_
  intro c0 hc0
  replace hc0 : c0.m.length = 0 := hc0
  rw [podestaref01_Size_raw] at H
  refine AR.seg hG hm 4 [0] (k' := [.code [1, 0, 0], .code [1, 0, 1], .code [1, 1]]) (t' := [(0, .sc (.int .i64 field))]) (h' := []) (by kernel_rfl) ?_
  refine AR.reg hm podestaref01_Size_k0 (by kernel_rfl) ?_
  refine DK.seg hG 3 [0, 5] (t' := [(0, .sc (.int .i64 field)), (5, .sc (.bool (decide (field < 0))))]) (h' := []) (by kernel_rfl) rfl ?_
  refine DK.mux 5 (decide (field < 0)) (j := 6) (h' := []) (by kernel_rfl) (fun z => [(0, .sc (.int .i64 field)), (8, .sc (.bool (z || (decide (field > 11)))))]) ?J1 (fun hb J => ?ht1) (fun hb J => ?hf1)
  case ht1 =>
    exact DK.seg hG 3 [0, 8] (by kernel_rfl) rfl J
  case hf1 =>
    exact DK.seg hG 3 [0, 8] (by kernel_rfl) rfl J
  refine DK.done (by kernel_rfl) (by kernel_rfl) ?_
  refine AR.cond (.tmp 8) ((decide (field < 0)) || (decide (field > 11))) (by kernel_rfl) (by kernel_rfl) (fun hb => ?ht2) (fun hb => ?hf2)
  case ht2 =>
    replace H := cond_t hb H
    refine AR.seg hG hm 2 [2] (k' := [.code [1, 0, 1, 0, 1], .code [1, 1]]) (t' := [(2, .sc (.int .i64 0))]) (h' := []) (by kernel_rfl) ?_
    obtain rfl := Option.some.inj H
    exact AR.ret0 (fn := Try.f54) hG Try.func54 (by kernel_rfl) hc0 (r0 := .sc (.int .i64 0)) (by kernel_rfl) (WkV.refl _)
  case hf2 =>
    replace H := cond_f hb H
    refine AR.seg hG hm 2 [0] (k' := [.code [1, 1, 0], .code [1, 1, 1]]) (t' := [(0, .sc (.int .i64 field))]) (h' := []) (by kernel_rfl) ?_
    refine AR.reg hm podestaref01_Size_k1 (by kernel_rfl) ?_
    refine DK.seg hG 2 [9, 10] (t' := [(9, .sl 3 (List.map (intA .i64) [16, 48, 48, 16, 12, 4, 32, 32, 8, 8, 12, 12]) true), (10, .sc (.int .i64 field))]) (h' := []) (by kernel_rfl) rfl ?_
    obtain ⟨x, hv, H⟩ := Option.bind_eq_some_iff.1 H
    refine DK.op' [11] (t' := [(11, .ep [.sc (.int .i64 x)] 0 none)]) (h' := []) (LSpec.index' (r := .sc (.int .i64 x)) (fs := [.sc (.int .i64 x)]) hG (rows := List.map (intA .i64) [16, 48, 48, 16, 12, 4, 32, 32, 8, 8, 12, 12]) (j := field) (by kernel_rfl) (ixO_map hv _) (by kernel_rfl)) (by kernel_rfl) rfl (by kernel_rfl) rfl ?_
    refine DK.seg hG 2 [2] (t' := [(2, .sc (.int .i64 x))]) (h' := []) (by kernel_rfl) rfl ?_
    refine DK.done (by kernel_rfl) (by kernel_rfl) ?_
    obtain rfl := Option.some.inj H
    exact AR.ret0 (fn := Try.f54) hG Try.func54 (by kernel_rfl) hc0 (r0 := .sc (.int .i64 x)) (by kernel_rfl) (WkV.refl _)

theorem podestaref01_Size_ok (n : Int) : ACalls Try.prog tab.S 54 [.sc (.int .i64 n)] [] (.sc (.int .i64 (sizeT n))) [] := by
  refine podestaref01_Size_walk n (sizeT n) ?_
  rw [podestaref01_Size_raw]
  rcases sizeT_cases n with ⟨h, e⟩ | ⟨h1, h2, k, rfl, hk, e⟩
  · rw [e]
    have : ((decide (n < 0)) || (decide (n > 11))) = true := by
      rw [Bool.or_eq_true, decide_eq_true_eq, decide_eq_true_eq]; omega
    rw [this]
    rfl
  · rw [e, decide_eq_false (by omega), decide_eq_false (by omega)]
    match k, hk with
    | 0, _ | 1, _ | 2, _ | 3, _ | 4, _ | 5, _ | 6, _ | 7, _ | 8, _ | 9, _ | 10, _ | 11, _ => rfl

/-! ### podestaref01.Fits: function 55 -/
noncomputable def podestaref01_Fits_F : Go.Sh.Fn := ⟨55, bodyOf Try.f55, 10⟩
def podestaref01_Fits_k0 : List Kd := [.pure, .pure, .pure, .pure, .pure, .pure]
def podestaref01_Fits (v : Int) (size : Int) : Bool :=
  (decide (v < (IntKind.u64.wrap (1 * 2 ^ (min ((IntKind.u64.wrap size) : Int).toNat (IntKind.u64).bits)))))
theorem podestaref01_Fits_walk (v : Int) (size : Int) (r : Bool) (H : podestaref01_Fits v size = r) :
    ACalls Try.prog tab.S 55 [.sc (.int .u64 v), .sc (.int .i64 size)] [] (.sc (.bool r)) [] := by
  have hG := tab_ok
  have hm := mixed
  refine ACalls.of_AR (G := tab) podestaref01_Fits_F (fn := Try.f55) Try.func55 (by kernel_rfl) (by kernel_rfl) (by kernel_rfl) (Nat.le_of_ble_eq_true (by kernel_rfl)) ?_
  intro c0 hc0
  replace hc0 : c0.m.length = 0 := hc0
  rw [podestaref01_Fits] at H
  refine AR.seg hG hm 3 [0, 1] (k' := [.code [1, 0], .code [1, 1]]) (t' := [(0, .sc (.int .u64 v)), (1, .sc (.int .i64 size))]) (h' := []) (by kernel_rfl) ?_
  refine AR.reg hm podestaref01_Fits_k0 (by kernel_rfl) ?_
  refine DK.seg hG 3 [5, 7] (t' := [(5, .sc (.int .u64 v)), (7, .sc (.int .u64 (IntKind.u64.wrap size)))]) (h' := []) (by kernel_rfl) rfl ?_
  refine DK.op' [5, 8] (t' := [(5, .sc (.int .u64 v)), (8, .sc (.int .u64 (IntKind.u64.wrap (1 * 2 ^ (min ((IntKind.u64.wrap size) : Int).toNat (IntKind.u64).bits)))))]) (h' := []) (LSpec.shl (k := .u64) (a := 1) (k' := .u64) (b := (IntKind.u64.wrap size)) (wrapU_nonneg _) (by kernel_rfl)) (by kernel_rfl) rfl (by kernel_rfl) rfl ?_
  refine DK.seg hG 2 [4] (t' := [(4, .sc (.bool (decide (v < (IntKind.u64.wrap (1 * 2 ^ (min ((IntKind.u64.wrap size) : Int).toNat (IntKind.u64).bits)))))))]) (h' := []) (by kernel_rfl) rfl ?_
  refine DK.done (by kernel_rfl) (by kernel_rfl) ?_
  subst H
  exact AR.ret0 (fn := Try.f55) hG Try.func55 (by kernel_rfl) hc0 (r0 := .sc (.bool (decide (v < (IntKind.u64.wrap (1 * 2 ^ (min ((IntKind.u64.wrap size) : Int).toNat (IntKind.u64).bits))))))) (by kernel_rfl) (WkV.refl _)
theorem podestaref01_Fits_calls (v : Int) (size : Int) : ACalls Try.prog tab.S 55 [.sc (.int .u64 v), .sc (.int .i64 size)] [] (.sc (.bool (podestaref01_Fits v size))) [] := podestaref01_Fits_walk v size _ rfl

theorem refFits_eq (n v : Int) : podestaref01_Fits v (sizeT n) = fitsT n v := by
  have hs := sizeT_in n
  unfold podestaref01_Fits fitsT
  have h1 : IntKind.u64.wrap (sizeT n) = sizeT n := wrapU_eq hs.1 (by omega)
  have hm : min (sizeT n).toNat (IntKind.u64).bits = (sizeT n).toNat := Nat.min_eq_left (by show _ ≤ 64; omega)
  have hp := pow_le48 (k := (sizeT n).toNat) (by omega)
  have hq := pow_pos2 (sizeT n).toNat
  rw [h1, hm, Int.one_mul, wrapU_eq (by omega) (by omega)]

/-! ### podestaref04.Acts: function 40 -/
noncomputable def podestaref04_Acts_F : Go.Sh.Fn := ⟨40, bodyOf Try.f40, 81⟩
def podestaref04_Acts_k1 : List Kd := [.pure, .read, .pure, .pure, .pure, .read, .pure, .pure, .pure, .pure, .read, .pure, .pure, .pure, .pure, .read, .pure, .pure, .pure]
def podestaref04_Acts_k2 : List Kd := [.pure, .read, .pure, .pure, .pure, .read, .pure, .pure, .pure, .pure, .read, .pure, .pure, .pure, .pure, .read, .pure, .read, .pure, .pure, .pure, .pure]
def podestaref04_Acts_k3 : List Kd := [.pure, .read, .pure, .pure, .pure, .read, .pure, .pure, .pure, .pure, .read, .pure, .pure, .pure]
def podestaref04_Acts_k0 : List Kd := [.pure, .pure, .pure, .pure, .loud, .loud]
def podestaref04_Acts_l0s : List Act → Sum (Unit) (Bool)
  | [] =>
    (.inl ())
  | x :: rest =>
    (bif (!(bif (x.Kind == 1) then ((((decide (x.Port ≥ 1)) && (decide (x.Port ≤ 16))) && (x.Field == 0)) && (x.Value == 0)) else (bif (x.Kind == 2) then ((((x.Port == 0) && (decide (x.Field ≥ 0))) && (decide (x.Field < 12))) && (podestaref01_Fits x.Value (sizeT x.Field))) else ((x.Kind == 3) && (((x.Port == 0) && (x.Field == 0)) && (x.Value == 0)))))) then
      (.inr false)
    else
      podestaref04_Acts_l0s rest )
theorem podestaref04_Acts_l0_walk (l : List Act) (f_l : Bool) (r : Bool) (c0 : Ctx) (hc0 : c0.m.length = 0) (res : Sum (Unit) (Bool)) (J : ∀ w : Unit, res = .inl w → AR Try.prog tab podestaref04_Acts_F c0 (Rp tab.S c0 (.sc (.bool r)) []) [.code [1, 1]] [(0, .sl 42 (List.map Act.av l) f_l)] []) (Jr : ∀ w, res = .inr w → w = r) :
    ∀ (rest : List Act) (i : Nat) (hd : l.drop i = rest) (H : podestaref04_Acts_l0s rest = res), AR Try.prog tab podestaref04_Acts_F c0 (Rp tab.S c0 (.sc (.bool r)) []) [.code [1, 0, 1, 0, 0], .loop [1, 0, 1, 0], .blk 0, .code [1, 1]] [(0, .sl 42 (List.map Act.av l) f_l), (3, .sc (.int .i64 ((i : Nat) : Int)))] [] := by
  have hG := tab_ok
  have hm := mixed
  intro rest
  induction rest with
  | nil =>
    intro i hd  H
    rw [podestaref04_Acts_l0s] at H
    refine AR.facts 0 rfl fun hf => ?_
    have hlen : l.length ≤ 9223372036854775807 := by have hq := len_ok hf.2.1; rw [List.length_map] at hq; exact hq
    have hge : l.length ≤ i := List.drop_eq_nil_iff.1 hd
    have hc : (decide (((i : Nat) : Int) < (((List.map Act.av l).length : Nat) : Int))) = false := by rw [List.length_map]; exact decide_eq_false (by omega)
    refine AR.seg hG hm 3 [0, 3, 9] (k' := [.code [1, 0, 1, 0, 0, 0, 1], .code [1, 0, 1, 0, 0, 1], .loop [1, 0, 1, 0], .blk 0, .code [1, 1]]) (t' := [(0, .sl 42 (List.map Act.av l) f_l), (3, .sc (.int .i64 ((i : Nat) : Int))), (9, .sc (.bool (decide (((i : Nat) : Int) < (((List.map Act.av l).length : Nat) : Int)))))]) (h' := []) (by kernel_rfl) ?_
    refine AR.cond (.tmp 9) (decide (((i : Nat) : Int) < (((List.map Act.av l).length : Nat) : Int))) (by kernel_rfl) (by kernel_rfl) (fun hb => ?ht130) (fun hb => ?hf130)
    case ht130 => exact absurd (hb.symm.trans hc) (by decide)
    case hf130 =>
      refine AR.seg hG hm 1 [0] (k' := [.code [1, 1]]) (t' := [(0, .sl 42 (List.map Act.av l) f_l)]) (h' := []) (by kernel_rfl) ?_
      refine AR.keep [0] (t' := [(0, .sl 42 (List.map Act.av l) f_l)]) (by kernel_rfl) ?_
      exact J () H.symm
  | cons x rest ih =>
    intro i hd  H
    rw [podestaref04_Acts_l0s] at H
    refine AR.facts 0 rfl fun hf => ?_
    have hlen : l.length ≤ 9223372036854775807 := by have hq := len_ok hf.2.1; rw [List.length_map] at hq; exact hq
    obtain ⟨hlt, hv_i, hd2⟩ := drop_cons hd
    have hc : (decide (((i : Nat) : Int) < (((List.map Act.av l).length : Nat) : Int))) = true := by rw [List.length_map]; exact decide_eq_true (by omega)
    have hw : IntKind.i64.wrap (((i : Nat) : Int) + 1) = ((i + 1 : Nat) : Int) := wrapI_succ (by omega)
    refine AR.seg hG hm 3 [0, 3, 9] (k' := [.code [1, 0, 1, 0, 0, 0, 1], .code [1, 0, 1, 0, 0, 1], .loop [1, 0, 1, 0], .blk 0, .code [1, 1]]) (t' := [(0, .sl 42 (List.map Act.av l) f_l), (3, .sc (.int .i64 ((i : Nat) : Int))), (9, .sc (.bool (decide (((i : Nat) : Int) < (((List.map Act.av l).length : Nat) : Int)))))]) (h' := []) (by kernel_rfl) ?_
    refine AR.cond (.tmp 9) (decide (((i : Nat) : Int) < (((List.map Act.av l).length : Nat) : Int))) (by kernel_rfl) (by kernel_rfl) (fun hb => ?ht131) (fun hb => ?hf131)
    case ht131 =>
      refine AR.seg hG hm 4 [0, 3] (k' := [.code [1, 0, 1, 0, 0, 1, 0, 0, 0], .code [1, 0, 1, 0, 0, 1, 0, 0, 1], .blk 1, .code [1, 0, 1, 0, 0, 1, 1], .loop [1, 0, 1, 0], .blk 0, .code [1, 1]]) (t' := [(0, .sl 42 (List.map Act.av l) f_l), (3, .sc (.int .i64 ((i : Nat) : Int)))]) (h' := []) (by kernel_rfl) ?_
      refine AR.reg hm podestaref04_Acts_k0 (by kernel_rfl) ?_
      refine DK.seg hG 2 [0, 3, 12, 13] (t' := [(0, .sl 42 (List.map Act.av l) f_l), (3, .sc (.int .i64 ((i : Nat) : Int))), (12, .sl 42 (List.map Act.av l) f_l), (13, .sc (.int .i64 ((i : Nat) : Int)))]) (h' := []) (by kernel_rfl) rfl ?_
      refine DK.op' [0, 3, 14] (t' := [(0, .sl 42 (List.map Act.av l) f_l), (3, .sc (.int .i64 ((i : Nat) : Int))), (14, .ep [.sc (.int .i64 x.Kind), .sc (.int .i64 x.Port), .sc (.int .i64 x.Field), .sc (.int .u64 x.Value)] 0 none)]) (h' := []) (LSpec.index' (r := Act.av x) (fs := [.sc (.int .i64 x.Kind), .sc (.int .i64 x.Port), .sc (.int .i64 x.Field), .sc (.int .u64 x.Value)]) hG (rows := List.map Act.av l) (j := ((i : Nat) : Int)) (by kernel_rfl) (ixO_map hv_i _) (by kernel_rfl)) (by kernel_rfl) rfl (by kernel_rfl) rfl ?_
      refine DK.seg hG 3 [0, 3, 4] (t' := [(0, .sl 42 (List.map Act.av l) f_l), (3, .sc (.int .i64 ((i : Nat) : Int))), (4, .ptr 0 0 none)]) (h' := [.box 42 (Act.ch x)]) (by kernel_rfl) rfl ?_
      refine DK.done (by kernel_rfl) (by kernel_rfl) ?_
      refine AR.seg hG hm 8 [0, 3, 4, 5, 17, 18] (k' := [.code [1, 0, 1, 0, 0, 1, 0, 0, 1, 1, 0, 1, 0, 1], .blk 2, .code [1, 0, 1, 0, 0, 1, 0, 0, 1, 1, 1], .blk 1, .code [1, 0, 1, 0, 0, 1, 1], .loop [1, 0, 1, 0], .blk 0, .code [1, 1]]) (t' := [(0, .sl 42 (List.map Act.av l) f_l), (3, .sc (.int .i64 ((i : Nat) : Int))), (4, .ptr 0 0 none), (5, .sc (.bool false)), (17, .sc (.int .i64 x.Kind)), (18, .sc (.bool (x.Kind == 1)))]) (h' := [.box 42 (Act.ch x)]) (by kernel_rfl) ?_
      refine AR.join (.tmp 18) (x.Kind == 1) (k' := [.blk 2, .code [1, 0, 1, 0, 0, 1, 0, 0, 1, 1, 1], .blk 1, .code [1, 0, 1, 0, 0, 1, 1], .loop [1, 0, 1, 0], .blk 0, .code [1, 1]]) (h' := [.box 42 (Act.ch x)]) (by kernel_rfl) (by kernel_rfl) (fun z => [(0, .sl 42 (List.map Act.av l) f_l), (3, .sc (.int .i64 ((i : Nat) : Int))), (5, .sc (.bool (bif z then ((((decide (x.Port ≥ 1)) && (decide (x.Port ≤ 16))) && (x.Field == 0)) && (x.Value == 0)) else (bif (x.Kind == 2) then ((((x.Port == 0) && (decide (x.Field ≥ 0))) && (decide (x.Field < 12))) && (podestaref01_Fits x.Value (sizeT x.Field))) else ((x.Kind == 3) && (((x.Port == 0) && (x.Field == 0)) && (x.Value == 0)))))))]) ?J152 (fun hb J => ?ht152) (fun hb J => ?hf152)
      case ht152 =>
        refine AR.reg hm podestaref04_Acts_k1 (by kernel_rfl) ?_
        refine DK.seg hG 4 [0, 3, 4, 23] (t' := [(0, .sl 42 (List.map Act.av l) f_l), (3, .sc (.int .i64 ((i : Nat) : Int))), (4, .ptr 0 0 none), (23, .sc (.bool (decide (x.Port ≥ 1))))]) (h' := [.box 42 (Act.ch x)]) (by kernel_rfl) rfl ?_
        refine DK.mux 23 (decide (x.Port ≥ 1)) (j := 8) (h' := [.box 42 (Act.ch x)]) (by kernel_rfl) (fun z => [(0, .sl 42 (List.map Act.av l) f_l), (3, .sc (.int .i64 ((i : Nat) : Int))), (4, .ptr 0 0 none), (27, .sc (.bool (z && (decide (x.Port ≤ 16)))))]) ?J153 (fun hb J => ?ht153) (fun hb J => ?hf153)
        case ht153 =>
          exact DK.seg hG 4 [0, 3, 4, 27] (by kernel_rfl) rfl J
        case hf153 =>
          exact DK.seg hG 4 [0, 3, 4, 27] (by kernel_rfl) rfl J
        refine DK.seg hG 1 [0, 3, 4, 28] (t' := [(0, .sl 42 (List.map Act.av l) f_l), (3, .sc (.int .i64 ((i : Nat) : Int))), (4, .ptr 0 0 none), (28, .sc (.bool ((decide (x.Port ≥ 1)) && (decide (x.Port ≤ 16)))))]) (h' := [.box 42 (Act.ch x)]) (by kernel_rfl) rfl ?_
        refine DK.mux 28 ((decide (x.Port ≥ 1)) && (decide (x.Port ≤ 16))) (j := 13) (h' := [.box 42 (Act.ch x)]) (by kernel_rfl) (fun z => [(0, .sl 42 (List.map Act.av l) f_l), (3, .sc (.int .i64 ((i : Nat) : Int))), (4, .ptr 0 0 none), (32, .sc (.bool (z && (x.Field == 0))))]) ?J154 (fun hb J => ?ht154) (fun hb J => ?hf154)
        case ht154 =>
          exact DK.seg hG 4 [0, 3, 4, 32] (by kernel_rfl) rfl J
        case hf154 =>
          exact DK.seg hG 4 [0, 3, 4, 32] (by kernel_rfl) rfl J
        refine DK.seg hG 1 [0, 3, 4, 33] (t' := [(0, .sl 42 (List.map Act.av l) f_l), (3, .sc (.int .i64 ((i : Nat) : Int))), (4, .ptr 0 0 none), (33, .sc (.bool (((decide (x.Port ≥ 1)) && (decide (x.Port ≤ 16))) && (x.Field == 0))))]) (h' := [.box 42 (Act.ch x)]) (by kernel_rfl) rfl ?_
        refine DK.mux 33 (((decide (x.Port ≥ 1)) && (decide (x.Port ≤ 16))) && (x.Field == 0)) (j := 18) (h' := [.box 42 (Act.ch x)]) (by kernel_rfl) (fun z => [(0, .sl 42 (List.map Act.av l) f_l), (3, .sc (.int .i64 ((i : Nat) : Int))), (37, .sc (.bool (z && (x.Value == 0))))]) ?J155 (fun hb J => ?ht155) (fun hb J => ?hf155)
        case ht155 =>
          exact DK.seg hG 4 [0, 3, 37] (by kernel_rfl) rfl J
        case hf155 =>
          exact DK.seg hG 4 [0, 3, 37] (by kernel_rfl) rfl J
        refine DK.seg hG 1 [0, 3, 5] (t' := [(0, .sl 42 (List.map Act.av l) f_l), (3, .sc (.int .i64 ((i : Nat) : Int))), (5, .sc (.bool ((((decide (x.Port ≥ 1)) && (decide (x.Port ≤ 16))) && (x.Field == 0)) && (x.Value == 0))))]) (h' := [.box 42 (Act.ch x)]) (by kernel_rfl) rfl ?_
        refine DK.done (by kernel_rfl) (by kernel_rfl) ?_
        exact AR.seg hG hm 0 [0, 3, 5] (by kernel_rfl) J
      case hf152 =>
        refine AR.seg hG hm 2 [0, 3, 4, 5, 17, 38] (k' := [.code [1, 0, 1, 0, 0, 1, 0, 0, 1, 1, 0, 1, 0, 1, 1, 1], .blk 2, .code [1, 0, 1, 0, 0, 1, 0, 0, 1, 1, 1], .blk 1, .code [1, 0, 1, 0, 0, 1, 1], .loop [1, 0, 1, 0], .blk 0, .code [1, 1]]) (t' := [(0, .sl 42 (List.map Act.av l) f_l), (3, .sc (.int .i64 ((i : Nat) : Int))), (4, .ptr 0 0 none), (5, .sc (.bool false)), (17, .sc (.int .i64 x.Kind)), (38, .sc (.bool (x.Kind == 2)))]) (h' := [.box 42 (Act.ch x)]) (by kernel_rfl) ?_
        refine AR.join (.tmp 38) (x.Kind == 2) (k' := [.blk 2, .code [1, 0, 1, 0, 0, 1, 0, 0, 1, 1, 1], .blk 1, .code [1, 0, 1, 0, 0, 1, 1], .loop [1, 0, 1, 0], .blk 0, .code [1, 1]]) (h' := [.box 42 (Act.ch x)]) (by kernel_rfl) (by kernel_rfl) (fun z => [(0, .sl 42 (List.map Act.av l) f_l), (3, .sc (.int .i64 ((i : Nat) : Int))), (5, .sc (.bool (bif z then ((((x.Port == 0) && (decide (x.Field ≥ 0))) && (decide (x.Field < 12))) && (podestaref01_Fits x.Value (sizeT x.Field))) else ((x.Kind == 3) && (((x.Port == 0) && (x.Field == 0)) && (x.Value == 0))))))]) ?J164 (fun hb J => ?ht164) (fun hb J => ?hf164)
        case ht164 =>
          refine AR.reg hm podestaref04_Acts_k2 (by kernel_rfl) ?_
          refine DK.seg hG 4 [0, 3, 4, 43] (t' := [(0, .sl 42 (List.map Act.av l) f_l), (3, .sc (.int .i64 ((i : Nat) : Int))), (4, .ptr 0 0 none), (43, .sc (.bool (x.Port == 0)))]) (h' := [.box 42 (Act.ch x)]) (by kernel_rfl) rfl ?_
          refine DK.mux 43 (x.Port == 0) (j := 8) (h' := [.box 42 (Act.ch x)]) (by kernel_rfl) (fun z => [(0, .sl 42 (List.map Act.av l) f_l), (3, .sc (.int .i64 ((i : Nat) : Int))), (4, .ptr 0 0 none), (47, .sc (.bool (z && (decide (x.Field ≥ 0)))))]) ?J165 (fun hb J => ?ht165) (fun hb J => ?hf165)
          case ht165 =>
            exact DK.seg hG 4 [0, 3, 4, 47] (by kernel_rfl) rfl J
          case hf165 =>
            exact DK.seg hG 4 [0, 3, 4, 47] (by kernel_rfl) rfl J
          refine DK.seg hG 1 [0, 3, 4, 48] (t' := [(0, .sl 42 (List.map Act.av l) f_l), (3, .sc (.int .i64 ((i : Nat) : Int))), (4, .ptr 0 0 none), (48, .sc (.bool ((x.Port == 0) && (decide (x.Field ≥ 0)))))]) (h' := [.box 42 (Act.ch x)]) (by kernel_rfl) rfl ?_
          refine DK.mux 48 ((x.Port == 0) && (decide (x.Field ≥ 0))) (j := 13) (h' := [.box 42 (Act.ch x)]) (by kernel_rfl) (fun z => [(0, .sl 42 (List.map Act.av l) f_l), (3, .sc (.int .i64 ((i : Nat) : Int))), (4, .ptr 0 0 none), (52, .sc (.bool (z && (decide (x.Field < 12)))))]) ?J166 (fun hb J => ?ht166) (fun hb J => ?hf166)
          case ht166 =>
            exact DK.seg hG 4 [0, 3, 4, 52] (by kernel_rfl) rfl J
          case hf166 =>
            exact DK.seg hG 4 [0, 3, 4, 52] (by kernel_rfl) rfl J
          refine DK.seg hG 1 [0, 3, 4, 53] (t' := [(0, .sl 42 (List.map Act.av l) f_l), (3, .sc (.int .i64 ((i : Nat) : Int))), (4, .ptr 0 0 none), (53, .sc (.bool (((x.Port == 0) && (decide (x.Field ≥ 0))) && (decide (x.Field < 12)))))]) (h' := [.box 42 (Act.ch x)]) (by kernel_rfl) rfl ?_
          refine DK.mux 53 (((x.Port == 0) && (decide (x.Field ≥ 0))) && (decide (x.Field < 12))) (j := 21) (h' := [.box 42 (Act.ch x)]) (by kernel_rfl) (fun z => [(0, .sl 42 (List.map Act.av l) f_l), (3, .sc (.int .i64 ((i : Nat) : Int))), (60, .sc (.bool (z && (podestaref01_Fits x.Value (sizeT x.Field)))))]) ?J167 (fun hb J => ?ht167) (fun hb J => ?hf167)
          case ht167 =>
            refine DK.seg hG 4 [0, 3, 53, 55, 57] (t' := [(0, .sl 42 (List.map Act.av l) f_l), (3, .sc (.int .i64 ((i : Nat) : Int))), (53, .sc (.bool true)), (55, .sc (.int .u64 x.Value)), (57, .sc (.int .i64 x.Field))]) (h' := [.box 42 (Act.ch x)]) (by kernel_rfl) rfl ?_
            refine DK.op' [0, 3, 53, 55, 58] (t' := [(0, .sl 42 (List.map Act.av l) f_l), (3, .sc (.int .i64 ((i : Nat) : Int))), (53, .sc (.bool true)), (55, .sc (.int .u64 x.Value)), (58, .sc (.int .i64 (sizeT x.Field)))]) (h' := [.box 42 (Act.ch x)]) (LSpec.callP' (podestaref01_Size_ok x.Field) (by kernel_rfl)) (by kernel_rfl) rfl (by kernel_rfl) rfl ?_
            refine DK.op' [0, 3, 53, 59] (t' := [(0, .sl 42 (List.map Act.av l) f_l), (3, .sc (.int .i64 ((i : Nat) : Int))), (53, .sc (.bool true)), (59, .sc (.bool (podestaref01_Fits x.Value (sizeT x.Field))))]) (h' := [.box 42 (Act.ch x)]) (LSpec.callP' (podestaref01_Fits_calls x.Value (sizeT x.Field)) (by kernel_rfl)) (by kernel_rfl) rfl (by kernel_rfl) rfl ?_
            exact DK.seg hG 1 [0, 3, 60] (by kernel_rfl) rfl J
          case hf167 =>
            exact DK.seg hG 7 [0, 3, 60] (by kernel_rfl) rfl J
          refine DK.seg hG 1 [0, 3, 5] (t' := [(0, .sl 42 (List.map Act.av l) f_l), (3, .sc (.int .i64 ((i : Nat) : Int))), (5, .sc (.bool ((((x.Port == 0) && (decide (x.Field ≥ 0))) && (decide (x.Field < 12))) && (podestaref01_Fits x.Value (sizeT x.Field)))))]) (h' := [.box 42 (Act.ch x)]) (by kernel_rfl) rfl ?_
          refine DK.done (by kernel_rfl) (by kernel_rfl) ?_
          exact AR.seg hG hm 0 [0, 3, 5] (by kernel_rfl) J
        case hf164 =>
          refine AR.seg hG hm 2 [0, 3, 4, 5, 61] (k' := [.code [1, 0, 1, 0, 0, 1, 0, 0, 1, 1, 0, 1, 0, 1, 1, 1, 1, 1], .blk 2, .code [1, 0, 1, 0, 0, 1, 0, 0, 1, 1, 1], .blk 1, .code [1, 0, 1, 0, 0, 1, 1], .loop [1, 0, 1, 0], .blk 0, .code [1, 1]]) (t' := [(0, .sl 42 (List.map Act.av l) f_l), (3, .sc (.int .i64 ((i : Nat) : Int))), (4, .ptr 0 0 none), (5, .sc (.bool false)), (61, .sc (.bool (x.Kind == 3)))]) (h' := [.box 42 (Act.ch x)]) (by kernel_rfl) ?_
          refine AR.join (.tmp 61) (x.Kind == 3) (k' := [.blk 2, .code [1, 0, 1, 0, 0, 1, 0, 0, 1, 1, 1], .blk 1, .code [1, 0, 1, 0, 0, 1, 1], .loop [1, 0, 1, 0], .blk 0, .code [1, 1]]) (h' := [.box 42 (Act.ch x)]) (by kernel_rfl) (by kernel_rfl) (fun z => [(0, .sl 42 (List.map Act.av l) f_l), (3, .sc (.int .i64 ((i : Nat) : Int))), (5, .sc (.bool (z && (((x.Port == 0) && (x.Field == 0)) && (x.Value == 0)))))]) ?J170 (fun hb J => ?ht170) (fun hb J => ?hf170)
          case ht170 =>
            refine AR.reg hm podestaref04_Acts_k3 (by kernel_rfl) ?_
            refine DK.seg hG 4 [0, 3, 4, 66] (t' := [(0, .sl 42 (List.map Act.av l) f_l), (3, .sc (.int .i64 ((i : Nat) : Int))), (4, .ptr 0 0 none), (66, .sc (.bool (x.Port == 0)))]) (h' := [.box 42 (Act.ch x)]) (by kernel_rfl) rfl ?_
            refine DK.mux 66 (x.Port == 0) (j := 8) (h' := [.box 42 (Act.ch x)]) (by kernel_rfl) (fun z => [(0, .sl 42 (List.map Act.av l) f_l), (3, .sc (.int .i64 ((i : Nat) : Int))), (4, .ptr 0 0 none), (70, .sc (.bool (z && (x.Field == 0))))]) ?J171 (fun hb J => ?ht171) (fun hb J => ?hf171)
            case ht171 =>
              exact DK.seg hG 4 [0, 3, 4, 70] (by kernel_rfl) rfl J
            case hf171 =>
              exact DK.seg hG 4 [0, 3, 4, 70] (by kernel_rfl) rfl J
            refine DK.seg hG 1 [0, 3, 4, 71] (t' := [(0, .sl 42 (List.map Act.av l) f_l), (3, .sc (.int .i64 ((i : Nat) : Int))), (4, .ptr 0 0 none), (71, .sc (.bool ((x.Port == 0) && (x.Field == 0))))]) (h' := [.box 42 (Act.ch x)]) (by kernel_rfl) rfl ?_
            refine DK.mux 71 ((x.Port == 0) && (x.Field == 0)) (j := 13) (h' := [.box 42 (Act.ch x)]) (by kernel_rfl) (fun z => [(0, .sl 42 (List.map Act.av l) f_l), (3, .sc (.int .i64 ((i : Nat) : Int))), (75, .sc (.bool (z && (x.Value == 0))))]) ?J172 (fun hb J => ?ht172) (fun hb J => ?hf172)
            case ht172 =>
              exact DK.seg hG 4 [0, 3, 75] (by kernel_rfl) rfl J
            case hf172 =>
              exact DK.seg hG 4 [0, 3, 75] (by kernel_rfl) rfl J
            refine DK.seg hG 1 [0, 3, 5] (t' := [(0, .sl 42 (List.map Act.av l) f_l), (3, .sc (.int .i64 ((i : Nat) : Int))), (5, .sc (.bool (((x.Port == 0) && (x.Field == 0)) && (x.Value == 0))))]) (h' := [.box 42 (Act.ch x)]) (by kernel_rfl) rfl ?_
            refine DK.done (by kernel_rfl) (by kernel_rfl) ?_
            exact AR.seg hG hm 0 [0, 3, 5] (by kernel_rfl) J
          case hf170 =>
            exact AR.seg hG hm 1 [0, 3, 5] (by kernel_rfl) J
          exact AR.seg hG hm 0 [0, 3, 5] (by kernel_rfl) J
        exact AR.seg hG hm 0 [0, 3, 5] (by kernel_rfl) J
      refine AR.seg hG hm 3 [0, 3, 77] (k' := [.code [1, 0, 1, 0, 0, 1, 0, 0, 1, 1, 1, 1], .blk 1, .code [1, 0, 1, 0, 0, 1, 1], .loop [1, 0, 1, 0], .blk 0, .code [1, 1]]) (t' := [(0, .sl 42 (List.map Act.av l) f_l), (3, .sc (.int .i64 ((i : Nat) : Int))), (77, .sc (.bool (!(bif (x.Kind == 1) then ((((decide (x.Port ≥ 1)) && (decide (x.Port ≤ 16))) && (x.Field == 0)) && (x.Value == 0)) else (bif (x.Kind == 2) then ((((x.Port == 0) && (decide (x.Field ≥ 0))) && (decide (x.Field < 12))) && (podestaref01_Fits x.Value (sizeT x.Field))) else ((x.Kind == 3) && (((x.Port == 0) && (x.Field == 0)) && (x.Value == 0))))))))]) (h' := [.box 42 (Act.ch x)]) (by kernel_rfl) ?_
      refine AR.cond (.tmp 77) (!(bif (x.Kind == 1) then ((((decide (x.Port ≥ 1)) && (decide (x.Port ≤ 16))) && (x.Field == 0)) && (x.Value == 0)) else (bif (x.Kind == 2) then ((((x.Port == 0) && (decide (x.Field ≥ 0))) && (decide (x.Field < 12))) && (podestaref01_Fits x.Value (sizeT x.Field))) else ((x.Kind == 3) && (((x.Port == 0) && (x.Field == 0)) && (x.Value == 0)))))) (by kernel_rfl) (by kernel_rfl) (fun hb => ?ht173) (fun hb => ?hf173)
      case ht173 =>
        replace H := cond_t hb H
        refine AR.seg hG hm 2 [2] (k' := [.code [1, 0, 1, 0, 0, 1, 0, 0, 1, 1, 1, 1, 0, 1], .blk 1, .code [1, 0, 1, 0, 0, 1, 1], .loop [1, 0, 1, 0], .blk 0, .code [1, 1]]) (t' := [(2, .sc (.bool false))]) (h' := [.box 42 (Act.ch x)]) (by kernel_rfl) ?_
        subst H
        obtain rfl := Jr _ rfl
        exact AR.ret0 (fn := Try.f40) hG Try.func40 (by kernel_rfl) hc0 (r0 := .sc (.bool false)) (by kernel_rfl) (WkV.refl _)
      case hf173 =>
        replace H := cond_f hb H
        refine AR.seg hG hm 3 [0, 3] (k' := [.loop [1, 0, 1, 0], .blk 0, .code [1, 1]]) (t' := [(0, .sl 42 (List.map Act.av l) f_l), (3, .sc (.int .i64 (IntKind.i64.wrap (((i : Nat) : Int) + 1))))]) (h' := [.box 42 (Act.ch x)]) (by kernel_rfl) ?_
        refine AR.keep [0, 3] (t' := [(0, .sl 42 (List.map Act.av l) f_l), (3, .sc (.int .i64 (IntKind.i64.wrap (((i : Nat) : Int) + 1))))]) (by kernel_rfl) ?_
        refine AR.drop' 0 hc0 (t' := [(0, .sl 42 (List.map Act.av l) f_l), (3, .sc (.int .i64 (IntKind.i64.wrap (((i : Nat) : Int) + 1))))]) (h' := []) (by kernel_rfl) ?_
        refine AR.loop_round ?_
        rw [hw]
        exact ih (i + 1) hd2 H
    case hf131 => exact absurd (hc.symm.trans hb) (by decide)

def podestaref04_Acts (l : List Act) : Bool :=
  sumG (fun q => q) (podestaref04_Acts_l0s l) fun v =>
  (decide ((((List.map Act.av l).length : Nat) : Int) ≤ 8))
theorem podestaref04_Acts_walk (l : List Act) (f_l : Bool) (r : Bool) (H : podestaref04_Acts l = r) :
    ACalls Try.prog tab.S 40 [.sl 42 (List.map Act.av l) f_l] [] (.sc (.bool r)) [] := by
  have hG := tab_ok
  have hm := mixed
  refine ACalls.of_AR (G := tab) podestaref04_Acts_F (fn := Try.f40) Try.func40 (by kernel_rfl) (by kernel_rfl) (by kernel_rfl) (Nat.le_of_ble_eq_true (by kernel_rfl)) ?_
  intro c0 hc0
  replace hc0 : c0.m.length = 0 := hc0
  rw [podestaref04_Acts] at H
  refine AR.seg hG hm 6 [0, 3] (k' := [.code [1, 0, 1, 0], .blk 0, .code [1, 1]]) (t' := [(0, .sl 42 (List.map Act.av l) f_l), (3, .sc (.int .i64 0))]) (h' := []) (by kernel_rfl) ?_
  rcases sumG_eq H with ⟨v, hv, H⟩ | ⟨r1, hv, hr1⟩
  case inr =>
    refine AR.into (by kernel_rfl) ?_
    replace hr1 : r1 = r := hr1
    subst hr1
    exact podestaref04_Acts_l0_walk l f_l _ c0 hc0 (.inr _) (fun _ e => by cases e) (fun _ e => (Sum.inr.inj e).symm) l 0 rfl hv
  refine AR.into (by kernel_rfl) ?_
  refine podestaref04_Acts_l0_walk l f_l r c0 hc0 (.inl v) (fun w e => ?_) (fun _ e => by cases e) l 0 rfl hv
  have e := Sum.inl.inj e
  subst e
  refine AR.seg hG hm 2 [2] (k' := [.code [1, 1, 1]]) (t' := [(2, .sc (.bool (decide ((((List.map Act.av l).length : Nat) : Int) ≤ 8))))]) (h' := []) (by kernel_rfl) ?_
  subst H
  exact AR.ret0 (fn := Try.f40) hG Try.func40 (by kernel_rfl) hc0 (r0 := .sc (.bool (decide ((((List.map Act.av l).length : Nat) : Int) ≤ 8)))) (by kernel_rfl) (WkV.refl _)
theorem podestaref04_Acts_calls (l : List Act) (f_l : Bool) : ACalls Try.prog tab.S 40 [.sl 42 (List.map Act.av l) f_l] [] (.sc (.bool (podestaref04_Acts l))) [] := podestaref04_Acts_walk l f_l _ rfl

def actOk (x : Act) : Bool := (bif (x.Kind == 1) then ((((decide (x.Port ≥ 1)) && (decide (x.Port ≤ 16))) && (x.Field == 0)) && (x.Value == 0)) else (bif (x.Kind == 2) then ((((x.Port == 0) && (decide (x.Field ≥ 0))) && (decide (x.Field < 12))) && (fitsT x.Field x.Value)) else ((x.Kind == 3) && (((x.Port == 0) && (x.Field == 0)) && (x.Value == 0)))))
def ActsOk (l : List Act) : Bool := l.all actOk && decide (l.length ≤ 8)
theorem refActs_l0s_eq : ∀ (l : List Act), podestaref04_Acts_l0s l = if l.all actOk then .inl () else .inr false
  | [] => rfl
  | x :: l => by
      rw [podestaref04_Acts_l0s, refActs_l0s_eq l, List.all_cons]
      simp only [refFits_eq]
      show (bif (!(actOk x)) then _ else _) = _
      cases actOk x
      · rfl
      · simp only [Bool.not_true, cond_false, Bool.true_and]
theorem refActs_eq (l : List Act) : podestaref04_Acts l = ActsOk l := by
  unfold podestaref04_Acts ActsOk
  rw [refActs_l0s_eq, List.length_map]
  cases l.all actOk
  · rfl
  · simp only [if_true, sumG, Bool.true_and]
    rw [Bool.eq_iff_iff, decide_eq_true_eq, decide_eq_true_eq]
    omega

/-! ### podestaref01.Bits: function 53 -/
noncomputable def podestaref01_Bits_F : Go.Sh.Fn := ⟨53, bodyOf Try.f53, 23⟩
def podestaref01_Bits_k0 : List Kd := [.pure, .pure, .pure, .pure, .pure, .pure, .pure, .pure, .loud, .pure]
def podestaref01_Bits_l0 (v : Int) : Nat → Int → List Bool → Option ((List Bool))
  | 0, _, _ => none
  | m + 1, k1, out =>
    (bif (decide (k1 ≥ 0)) then
    fitO (out.length + [((IntKind.u64.wrap ((BitVec.ofInt 64 (Int.fdiv v (2 ^ (min ((IntKind.u64.wrap k1) : Int).toNat (IntKind.u64).bits))) &&& BitVec.ofInt 64 1).toNat)) == 1)].length) 1 (
    podestaref01_Bits_l0 v m (IntKind.i64.wrap (k1 - 1)) (out ++ [((IntKind.u64.wrap ((BitVec.ofInt 64 (Int.fdiv v (2 ^ (min ((IntKind.u64.wrap k1) : Int).toNat (IntKind.u64).bits))) &&& BitVec.ofInt 64 1).toNat)) == 1)]))
  else
    some out)
theorem podestaref01_Bits_l0_walk (q0 : Nat) (v : Int) (size : Int)  (r : (List Bool)) (c0 : Ctx) (hc0 : c0.m.length = 0) (res : (List Bool)) (J : AR Try.prog tab podestaref01_Bits_F c0 (Rp tab.S c0 (.sl 4 (List.map boolA r) false) []) [.code [1, 1, 1]] [(5, .own 0 1000000)] [.row 4 (List.map boolA res) 1000000 true]) :
    ∀ (m : Nat) (k1 : Int) (out : List Bool) (H : podestaref01_Bits_l0 v m k1 out = some res), AR Try.prog tab podestaref01_Bits_F c0 (Rp tab.S c0 (.sl 4 (List.map boolA r) false) []) [.code [1, 1, 0, 1, 0, 0], .loop [1, 1, 0, 1, 0], .blk 0, .code [1, 1, 1]] [(0, .sc (.int .u64 v)), (5, .own 0 1000000), (6, .sc (.int .i64 k1))] [.row 4 (List.map boolA out) 1000000 true] := by
  have hG := tab_ok
  have hm := mixed
  intro m
  induction m with
  | zero => intro k1 out H; cases H
  | succ m ih =>
    intro k1 out H
    rw [podestaref01_Bits_l0] at H
    refine AR.seg hG hm 3 [0, 5, 6, 10] (k' := [.code [1, 1, 0, 1, 0, 0, 0, 1], .code [1, 1, 0, 1, 0, 0, 1], .loop [1, 1, 0, 1, 0], .blk 0, .code [1, 1, 1]]) (t' := [(0, .sc (.int .u64 v)), (5, .own 0 1000000), (6, .sc (.int .i64 k1)), (10, .sc (.bool (decide (k1 ≥ 0))))]) (h' := [.row 4 (List.map boolA out) 1000000 true]) (by kernel_rfl) ?_
    refine AR.cond (.tmp 10) (decide (k1 ≥ 0)) (by kernel_rfl) (by kernel_rfl) (fun hb => ?ht4) (fun hb => ?hf4)
    case ht4 =>
      replace H := cond_t hb H
      refine AR.seg hG hm 3 [0, 5, 6] (k' := [.code [1, 1, 0, 1, 0, 0, 1, 0, 0], .blk 1, .code [1, 1, 0, 1, 0, 0, 1, 1], .loop [1, 1, 0, 1, 0], .blk 0, .code [1, 1, 1]]) (t' := [(0, .sc (.int .u64 v)), (5, .own 0 1000000), (6, .sc (.int .i64 k1))]) (h' := [.row 4 (List.map boolA out) 1000000 true]) (by kernel_rfl) ?_
      refine AR.reg hm podestaref01_Bits_k0 (by kernel_rfl) ?_
      refine DK.seg hG 4 [0, 6, 13, 14, 16] (t' := [(0, .sc (.int .u64 v)), (6, .sc (.int .i64 k1)), (13, .own 0 1000000), (14, .sc (.int .u64 v)), (16, .sc (.int .u64 (IntKind.u64.wrap k1)))]) (h' := [.row 4 (List.map boolA out) 1000000 true]) (by kernel_rfl) rfl ?_
      refine DK.op' [0, 6, 13, 17] (t' := [(0, .sc (.int .u64 v)), (6, .sc (.int .i64 k1)), (13, .own 0 1000000), (17, .sc (.int .u64 (Int.fdiv v (2 ^ (min ((IntKind.u64.wrap k1) : Int).toNat (IntKind.u64).bits)))))]) (h' := [.row 4 (List.map boolA out) 1000000 true]) (LSpec.shr (k := .u64) (a := v) (k' := .u64) (b := (IntKind.u64.wrap k1)) (wrapU_nonneg _) (by kernel_rfl)) (by kernel_rfl) rfl (by kernel_rfl) rfl ?_
      refine DK.seg hG 3 [0, 6, 13, 20] (t' := [(0, .sc (.int .u64 v)), (6, .sc (.int .i64 k1)), (13, .own 0 1000000), (20, .sl 4 (List.map boolA [((IntKind.u64.wrap ((BitVec.ofInt 64 (Int.fdiv v (2 ^ (min ((IntKind.u64.wrap k1) : Int).toNat (IntKind.u64).bits))) &&& BitVec.ofInt 64 1).toNat)) == 1)]) true)]) (h' := [.row 4 (List.map boolA out) 1000000 true]) (by kernel_rfl) rfl ?_
      obtain ⟨hfit, H⟩ := fitO_some H
      refine DK.op' [0, 6, 21] (t' := [(0, .sc (.int .u64 v)), (6, .sc (.int .i64 k1)), (21, .own 0 1000001)]) (h' := [.row 4 (List.map boolA (out ++ [((IntKind.u64.wrap ((BitVec.ofInt 64 (Int.fdiv v (2 ^ (min ((IntKind.u64.wrap k1) : Int).toNat (IntKind.u64).bits))) &&& BitVec.ofInt 64 1).toNat)) == 1)])) 1000001 true]) (LSpec.append' hG boolA out [((IntKind.u64.wrap ((BitVec.ofInt 64 (Int.fdiv v (2 ^ (min ((IntKind.u64.wrap k1) : Int).toNat (IntKind.u64).bits))) &&& BitVec.ofInt 64 1).toNat)) == 1)] 0 1000000 4 1 hfit (by kernel_rfl)) (by kernel_rfl) (by kernel_rfl) (by kernel_rfl) rfl ?_
      refine DK.seg hG 1 [0, 5, 6] (t' := [(0, .sc (.int .u64 v)), (5, .own 0 1000001), (6, .sc (.int .i64 k1))]) (h' := [.row 4 (List.map boolA (out ++ [((IntKind.u64.wrap ((BitVec.ofInt 64 (Int.fdiv v (2 ^ (min ((IntKind.u64.wrap k1) : Int).toNat (IntKind.u64).bits))) &&& BitVec.ofInt 64 1).toNat)) == 1)])) 1000001 true]) (by kernel_rfl) rfl ?_
      refine DK.done (by kernel_rfl) (by kernel_rfl) ?_
      refine AR.seg hG hm 2 [0, 5, 6] (k' := [.loop [1, 1, 0, 1, 0], .blk 0, .code [1, 1, 1]]) (t' := [(0, .sc (.int .u64 v)), (5, .own 0 1000001), (6, .sc (.int .i64 (IntKind.i64.wrap (k1 - 1))))]) (h' := [.row 4 (List.map boolA (out ++ [((IntKind.u64.wrap ((BitVec.ofInt 64 (Int.fdiv v (2 ^ (min ((IntKind.u64.wrap k1) : Int).toNat (IntKind.u64).bits))) &&& BitVec.ofInt 64 1).toNat)) == 1)])) 1000001 true]) (by kernel_rfl) ?_
      refine AR.keep [0, 5, 6] (t' := [(0, .sc (.int .u64 v)), (5, .own 0 1000001), (6, .sc (.int .i64 (IntKind.i64.wrap (k1 - 1))))]) (by kernel_rfl) ?_
      refine AR.norm' 0 1000000 hc0 (t' := [(0, .sc (.int .u64 v)), (5, .own 0 1000000), (6, .sc (.int .i64 (IntKind.i64.wrap (k1 - 1))))]) (h' := [.row 4 (List.map boolA (out ++ [((IntKind.u64.wrap ((BitVec.ofInt 64 (Int.fdiv v (2 ^ (min ((IntKind.u64.wrap k1) : Int).toNat (IntKind.u64).bits))) &&& BitVec.ofInt 64 1).toNat)) == 1)])) 1000000 true]) (by kernel_rfl) ?_
      refine AR.loop_round ?_
      exact ih (IntKind.i64.wrap (k1 - 1)) (out ++ [((IntKind.u64.wrap ((BitVec.ofInt 64 (Int.fdiv v (2 ^ (min ((IntKind.u64.wrap k1) : Int).toNat (IntKind.u64).bits))) &&& BitVec.ofInt 64 1).toNat)) == 1)]) H
    case hf4 =>
      replace H := cond_f hb H
      refine AR.seg hG hm 1 [5] (k' := [.code [1, 1, 1]]) (t' := [(5, .own 0 1000000)]) (h' := [.row 4 (List.map boolA out) 1000000 true]) (by kernel_rfl) ?_
      refine AR.keep [5] (t' := [(5, .own 0 1000000)]) (by kernel_rfl) ?_
      obtain rfl := Option.some.inj H
      exact J
def podestaref01_Bits_raw (q0 : Nat) (v : Int) (size : Int) : Option ((List Bool)) :=
  (podestaref01_Bits_l0 v q0 (IntKind.i64.wrap (size - 1)) ([] : List Bool)).bind fun v1 =>
  some v1
theorem podestaref01_Bits_walk (q0 : Nat) (v : Int) (size : Int) (r : (List Bool)) (H : podestaref01_Bits_raw q0 v size = some r) :
    ACalls Try.prog tab.S 53 [.sc (.int .u64 v), .sc (.int .i64 size)] [] (.sl 4 (List.map boolA r) false) [] := by
  have hG := tab_ok
  have hm := mixed
  refine ACalls.of_AR (G := tab) podestaref01_Bits_F (fn := Try.f53) Try.func53 (by kernel_rfl) (by kernel_rfl) (by kernel_rfl) (Nat.le_of_ble_eq_true (by kernel_rfl)) ?_
  intro c0 hc0
  replace hc0 : c0.m.length = 0 := hc0
  rw [podestaref01_Bits_raw] at H
  refine AR.seg hG hm 8 [0, 5, 6] (k' := [.code [1, 1, 0, 1, 0], .blk 0, .code [1, 1, 1]]) (t' := [(0, .sc (.int .u64 v)), (5, .sl 0 [] true), (6, .sc (.int .i64 (IntKind.i64.wrap (size - 1))))]) (h' := []) (by kernel_rfl) ?_
  refine AR.adoptB' 5 4 (t' := [(5, .own 0 1000000), (0, .sc (.int .u64 v)), (6, .sc (.int .i64 (IntKind.i64.wrap (size - 1))))]) (h' := [.row 4 (List.map boolA ([] : List Bool)) 1000000 true]) (by kernel_rfl) ?_
  refine AR.keep [0, 5, 6] (t' := [(0, .sc (.int .u64 v)), (5, .own 0 1000000), (6, .sc (.int .i64 (IntKind.i64.wrap (size - 1))))]) (by kernel_rfl) ?_
  obtain ⟨v1, hv, H⟩ := Option.bind_eq_some_iff.1 H
  refine AR.into (by kernel_rfl) ?_
  refine podestaref01_Bits_l0_walk q0 v size r c0 hc0 v1 ?_ q0 (IntKind.i64.wrap (size - 1)) ([] : List Bool) hv
  refine AR.seg hG hm 2 [4] (k' := [.code [1, 1, 1, 1]]) (t' := [(4, .own 0 1000000)]) (h' := [.row 4 (List.map boolA v1) 1000000 true]) (by kernel_rfl) ?_
  obtain rfl := Option.some.inj H
  exact AR.ret0 (fn := Try.f53) hG Try.func53 (by kernel_rfl) hc0 (r0 := .sl 4 (List.map boolA v1) false) (by kernel_rfl) (WkV.refl _)

def bitE (v k1 : Int) : Bool := ((IntKind.u64.wrap ((BitVec.ofInt 64 (Int.fdiv v (2 ^ (min ((IntKind.u64.wrap k1) : Int).toNat (IntKind.u64).bits))) &&& BitVec.ofInt 64 1).toNat)) == 1)
def bitsL (v : Int) : Nat → List Bool
  | 0 => []
  | n + 1 => bitE v (n : Int) :: bitsL v n
theorem bitsL_len (v : Int) : ∀ n, (bitsL v n).length = n
  | 0 => rfl
  | n + 1 => by rw [bitsL, List.length_cons, bitsL_len v n]
def bitsO (v size : Int) : Option (List Bool) := if 0 ≤ size ∧ size ≤ 64 then some (bitsL v size.toNat) else none
theorem refBits_l0_eq (v : Int) : ∀ (n m : Nat) (out : List Bool), n < m → n ≤ 64 → out.length + n ≤ 1000 → podestaref01_Bits_l0 v m ((n : Int) - 1) out = some (out ++ bitsL v n)
  | 0, m + 1, out, _, _, _ => by
      rw [podestaref01_Bits_l0, decide_eq_false (by omega), bitsL, List.append_nil]; rfl
  | n + 1, m + 1, out, h1, h2, h3 => by
      have e : (((n + 1 : Nat) : Int) - 1) = (n : Int) := by omega
      rw [podestaref01_Bits_l0, e, decide_eq_true (show ((n : Int)) ≥ 0 by omega), cond_true, fitO_eq (by rw [List.length_cons, List.length_nil]; omega), wrap_eq (by omega) (by omega)]
      rw [refBits_l0_eq v n m _ (by omega) (by omega) (by rw [List.length_append, List.length_cons, List.length_nil]; omega), List.append_assoc]
      rfl
theorem podestaref01_Bits_ok (v size : Int) (x : List Bool) (h : bitsO v size = some x) : ACalls Try.prog tab.S 53 [.sc (.int .u64 v), .sc (.int .i64 size)] [] (.sl 4 (List.map boolA x) false) [] := by
  unfold bitsO at h
  split at h
  · rename_i hc
    injection h with h
    subst h
    refine podestaref01_Bits_walk (size.toNat + 1) v size _ ?_
    rw [podestaref01_Bits_raw, wrap_eq (by omega) (by omega)]
    have := refBits_l0_eq v size.toNat (size.toNat + 1) [] (by omega) (by omega) (by rw [List.length_nil]; omega)
    rw [show ((size.toNat : Nat) : Int) = size by omega] at this
    rw [this]
    rfl
  · cases h

end Go.Proofs.Ytadolbhmdimbkaa

set_option linter.unusedVariables false
set_option linter.unusedSimpArgs false
set_option maxRecDepth 100000
set_option maxHeartbeats 4000000
namespace Go.Proofs.Ytadolbhmdimbkaa
open Go.Sh
/-! ### podestaref01.Head: function 34 -/
noncomputable def podestaref01_Head_F : Go.Sh.Fn := ⟨34, bodyOf Try.f34, 15⟩
def podestaref01_Head_k0 : List Kd := [.pure, .pure, .read, .pure, .pure, .pure, .pure]
def podestaref01_Head_l0s (h1 : List Int) : Nat → Nat → Sum (Unit) (Bool)
  | 0, i =>
    (.inl ())
  | rest + 1, i =>
    (bif (!(podestaref01_Fits (h1.getD (i) 0) (sizeT ((i : Nat) : Int)))) then
      (.inr false)
    else
      podestaref01_Head_l0s h1 rest (i + 1) )
theorem podestaref01_Head_l0_walk (h1 : List Int) (r : Bool) (c0 : Ctx) (hc0 : c0.m.length = 0) (res : Sum (Unit) (Bool)) (J : ∀ w : Unit, res = .inl w → AR Try.prog tab podestaref01_Head_F c0 (Rp tab.S c0 (.sc (.bool r)) []) [.code [1, 1]] [] [.box 25 [.arr .u64 12 h1]]) (Jr : ∀ w, res = .inr w → w = r) :
    ∀ (rest : Nat) (i : Nat) (hd : i + rest = 12) (H : podestaref01_Head_l0s h1 rest i = res), AR Try.prog tab podestaref01_Head_F c0 (Rp tab.S c0 (.sc (.bool r)) []) [.code [1, 0, 1, 0, 0], .loop [1, 0, 1, 0], .blk 0, .code [1, 1]] [(1, .ptr 0 0 none), (3, .sc (.int .i64 ((i : Nat) : Int)))] [.box 25 [.arr .u64 12 h1]] := by
  have hG := tab_ok
  have hm := mixed
  intro rest
  induction rest with
  | zero =>
    intro i hd  H
    rw [podestaref01_Head_l0s] at H
    have hc : (decide (((i : Nat) : Int) < 12)) = false := decide_eq_false (by omega)
    refine AR.seg hG hm 3 [1, 3, 5] (k' := [.code [1, 0, 1, 0, 0, 0, 1], .code [1, 0, 1, 0, 0, 1], .loop [1, 0, 1, 0], .blk 0, .code [1, 1]]) (t' := [(1, .ptr 0 0 none), (3, .sc (.int .i64 ((i : Nat) : Int))), (5, .sc (.bool (decide (((i : Nat) : Int) < 12))))]) (h' := [.box 25 [.arr .u64 12 h1]]) (by kernel_rfl) ?_
    refine AR.cond (.tmp 5) (decide (((i : Nat) : Int) < 12)) (by kernel_rfl) (by kernel_rfl) (fun hb => ?ht7) (fun hb => ?hf7)
    case ht7 => exact absurd (hb.symm.trans hc) (by decide)
    case hf7 =>
      refine AR.seg hG hm 1 [] (k' := [.code [1, 1]]) (t' := []) (h' := [.box 25 [.arr .u64 12 h1]]) (by kernel_rfl) ?_
      refine AR.keep [] (t' := []) (by kernel_rfl) ?_
      exact J () H.symm
  | succ rest ih =>
    intro i hd  H
    rw [podestaref01_Head_l0s] at H
    have hlt_i : i < 12 := by omega
    have hc : (decide (((i : Nat) : Int) < 12)) = true := decide_eq_true (by omega)
    have hw : IntKind.i64.wrap (((i : Nat) : Int) + 1) = ((i + 1 : Nat) : Int) := wrapI_succ (by omega)
    refine AR.seg hG hm 3 [1, 3, 5] (k' := [.code [1, 0, 1, 0, 0, 0, 1], .code [1, 0, 1, 0, 0, 1], .loop [1, 0, 1, 0], .blk 0, .code [1, 1]]) (t' := [(1, .ptr 0 0 none), (3, .sc (.int .i64 ((i : Nat) : Int))), (5, .sc (.bool (decide (((i : Nat) : Int) < 12))))]) (h' := [.box 25 [.arr .u64 12 h1]]) (by kernel_rfl) ?_
    refine AR.cond (.tmp 5) (decide (((i : Nat) : Int) < 12)) (by kernel_rfl) (by kernel_rfl) (fun hb => ?ht8) (fun hb => ?hf8)
    case ht8 =>
      refine AR.seg hG hm 4 [1, 3] (k' := [.code [1, 0, 1, 0, 0, 1, 0, 0, 0], .code [1, 0, 1, 0, 0, 1, 0, 0, 1], .blk 1, .code [1, 0, 1, 0, 0, 1, 1], .loop [1, 0, 1, 0], .blk 0, .code [1, 1]]) (t' := [(1, .ptr 0 0 none), (3, .sc (.int .i64 ((i : Nat) : Int)))]) (h' := [.box 25 [.arr .u64 12 h1]]) (by kernel_rfl) ?_
      refine AR.reg hm podestaref01_Head_k0 (by kernel_rfl) ?_
      refine DK.seg hG 1 [1, 3, 8] (t' := [(1, .ptr 0 0 none), (3, .sc (.int .i64 ((i : Nat) : Int))), (8, .sc (.int .i64 ((i : Nat) : Int)))]) (h' := [.box 25 [.arr .u64 12 h1]]) (by kernel_rfl) rfl ?_
      have hreq := idx_in 12 hlt_i (by decide)
      refine DK.op' [1, 3, 9] (t' := [(1, .ptr 0 0 none), (3, .sc (.int .i64 ((i : Nat) : Int))), (9, .ptr 0 0 (some (i, 12)))]) (h' := [.box 25 [.arr .u64 12 h1]]) (LSpec.idxPtr (o := 0) (off := 0) (m := 12) (j := ((i : Nat) : Int)) hG hreq (by kernel_rfl)) (by kernel_rfl) rfl (by kernel_rfl) rfl ?_
      refine DK.seg hG 2 [1, 3, 10, 11] (t' := [(1, .ptr 0 0 none), (3, .sc (.int .i64 ((i : Nat) : Int))), (10, .sc (.int .u64 (h1.getD (i) 0))), (11, .sc (.int .i64 ((i : Nat) : Int)))]) (h' := [.box 25 [.arr .u64 12 h1]]) (by kernel_rfl) rfl ?_
      refine DK.op' [1, 3, 10, 12] (t' := [(1, .ptr 0 0 none), (3, .sc (.int .i64 ((i : Nat) : Int))), (10, .sc (.int .u64 (h1.getD (i) 0))), (12, .sc (.int .i64 (sizeT ((i : Nat) : Int))))]) (h' := [.box 25 [.arr .u64 12 h1]]) (LSpec.callP' (podestaref01_Size_ok ((i : Nat) : Int)) (by kernel_rfl)) (by kernel_rfl) rfl (by kernel_rfl) rfl ?_
      refine DK.op' [1, 3, 13] (t' := [(1, .ptr 0 0 none), (3, .sc (.int .i64 ((i : Nat) : Int))), (13, .sc (.bool (podestaref01_Fits (h1.getD (i) 0) (sizeT ((i : Nat) : Int)))))]) (h' := [.box 25 [.arr .u64 12 h1]]) (LSpec.callP' (podestaref01_Fits_calls (h1.getD (i) 0) (sizeT ((i : Nat) : Int))) (by kernel_rfl)) (by kernel_rfl) rfl (by kernel_rfl) rfl ?_
      refine DK.seg hG 1 [1, 3, 14] (t' := [(1, .ptr 0 0 none), (3, .sc (.int .i64 ((i : Nat) : Int))), (14, .sc (.bool (!(podestaref01_Fits (h1.getD (i) 0) (sizeT ((i : Nat) : Int))))))]) (h' := [.box 25 [.arr .u64 12 h1]]) (by kernel_rfl) rfl ?_
      refine DK.done (by kernel_rfl) (by kernel_rfl) ?_
      refine AR.cond (.tmp 14) (!(podestaref01_Fits (h1.getD (i) 0) (sizeT ((i : Nat) : Int)))) (by kernel_rfl) (by kernel_rfl) (fun hb => ?ht9) (fun hb => ?hf9)
      case ht9 =>
        replace H := cond_t hb H
        refine AR.seg hG hm 2 [2] (k' := [.code [1, 0, 1, 0, 0, 1, 0, 0, 1, 0, 1], .blk 1, .code [1, 0, 1, 0, 0, 1, 1], .loop [1, 0, 1, 0], .blk 0, .code [1, 1]]) (t' := [(2, .sc (.bool false))]) (h' := [.box 25 [.arr .u64 12 h1]]) (by kernel_rfl) ?_
        subst H
        obtain rfl := Jr _ rfl
        exact AR.ret0 (fn := Try.f34) hG Try.func34 (by kernel_rfl) hc0 (r0 := .sc (.bool false)) (by kernel_rfl) (WkV.refl _)
      case hf9 =>
        replace H := cond_f hb H
        refine AR.seg hG hm 3 [1, 3] (k' := [.loop [1, 0, 1, 0], .blk 0, .code [1, 1]]) (t' := [(1, .ptr 0 0 none), (3, .sc (.int .i64 (IntKind.i64.wrap (((i : Nat) : Int) + 1))))]) (h' := [.box 25 [.arr .u64 12 h1]]) (by kernel_rfl) ?_
        refine AR.keep [1, 3] (t' := [(1, .ptr 0 0 none), (3, .sc (.int .i64 (IntKind.i64.wrap (((i : Nat) : Int) + 1))))]) (by kernel_rfl) ?_
        refine AR.loop_round ?_
        rw [hw]
        exact ih (i + 1) (by omega) H
    case hf8 => exact absurd (hc.symm.trans hb) (by decide)

def podestaref01_Head (h1 : List Int) : Bool :=
  sumG (fun q => q) (podestaref01_Head_l0s h1 12 0) fun v =>
  true
theorem podestaref01_Head_walk (h1 : List Int) (r : Bool) (H : podestaref01_Head h1 = r) :
    ACalls Try.prog tab.S 34 [.arr .u64 12 h1] [] (.sc (.bool r)) [] := by
  have hG := tab_ok
  have hm := mixed
  refine ACalls.of_AR (G := tab) podestaref01_Head_F (fn := Try.f34) Try.func34 (by kernel_rfl) (by kernel_rfl) (by kernel_rfl) (Nat.le_of_ble_eq_true (by kernel_rfl)) ?_
  intro c0 hc0
  replace hc0 : c0.m.length = 0 := hc0
  rw [podestaref01_Head] at H
  refine AR.seg hG hm 6 [1, 3] (k' := [.code [1, 0, 1, 0], .blk 0, .code [1, 1]]) (t' := [(1, .ptr 0 0 none), (3, .sc (.int .i64 0))]) (h' := [.box 25 [.arr .u64 12 h1]]) (by kernel_rfl) ?_
  rcases sumG_eq H with ⟨v, hv, H⟩ | ⟨r1, hv, hr1⟩
  case inr =>
    refine AR.into (by kernel_rfl) ?_
    replace hr1 : r1 = r := hr1
    subst hr1
    exact podestaref01_Head_l0_walk h1 _ c0 hc0 (.inr _) (fun _ e => by cases e) (fun _ e => (Sum.inr.inj e).symm) 12 0 rfl hv
  refine AR.into (by kernel_rfl) ?_
  refine podestaref01_Head_l0_walk h1 r c0 hc0 (.inl v) (fun w e => ?_) (fun _ e => by cases e) 12 0 rfl hv
  have e := Sum.inl.inj e
  subst e
  refine AR.seg hG hm 2 [2] (k' := [.code [1, 1, 1]]) (t' := [(2, .sc (.bool true))]) (h' := [.box 25 [.arr .u64 12 h1]]) (by kernel_rfl) ?_
  subst H
  exact AR.ret0 (fn := Try.f34) hG Try.func34 (by kernel_rfl) hc0 (r0 := .sc (.bool true)) (by kernel_rfl) (WkV.refl _)
theorem podestaref01_Head_calls (h1 : List Int) : ACalls Try.prog tab.S 34 [.arr .u64 12 h1] [] (.sc (.bool (podestaref01_Head h1))) [] := podestaref01_Head_walk h1 _ rfl

/-! ### podestaref01.Text: function 32 -/
noncomputable def podestaref01_Text_F : Go.Sh.Fn := ⟨32, bodyOf Try.f32, 70⟩
def podestaref01_Text_k4 : List Kd := [.pure, .pure, .loud, .pure]
def podestaref01_Text_k6 : List Kd := [.pure, .pure, .loud, .pure]
def podestaref01_Text_k7 : List Kd := [.pure, .pure, .loud, .pure]
def podestaref01_Text_k5 : List Kd := [.pure, .pure, .pure, .pure, .pure]
def podestaref01_Text_k3 : List Kd := [.pure, .pure, .pure, .pure, .pure, .pure]
def podestaref01_Text_k2 : List Kd := [.pure, .pure, .pure, .read, .pure, .pure, .pure, .pure, .pure, .pure, .read, .pure, .pure, .pure, .pure, .pure]
def podestaref01_Text_k1 : List Kd := [.pure, .pure, .pure, .read, .pure, .pure, .pure, .read, .pure, .pure]
def podestaref01_Text_k8 : List Kd := [.pure, .read, .pure, .pure, .pure]
def podestaref01_Text_k0 : List Kd := [.pure, .read, .pure, .pure]
def podestaref01_Text_l1s (x2 : (List Bool)) (ok1 : Bool) : List Bool → Nat → List Int → Option (Bool × (List Int))
  | [], k1, out1 =>
    some (ok1, out1)
  | x3 :: rest1, k1, out1 =>
    (ixO x2 ((k1 : Nat) : Int)).bind fun x4 =>
    (bif (!x4) then
      fitO (out1.length + [120].length) 1 (
      podestaref01_Text_l1s x2 ok1 rest1 (k1 + 1) (out1 ++ [120]))
    else
      (bif x3 then
        fitO (out1.length + [49].length) 1 (
        podestaref01_Text_l1s x2 ok1 rest1 (k1 + 1) (out1 ++ [49]))
      else
        fitO (out1.length + [48].length) 1 (
        podestaref01_Text_l1s x2 ok1 rest1 (k1 + 1) (out1 ++ [48]))))
theorem podestaref01_Text_l1_walk (c : Cube) (i : Nat) (ok : Bool) (out : List Int) (hlt_i : i < 12) (x1 : (List Bool)) (x2 : (List Bool)) (ok1 : Bool) (r : ByteArray × Bool) (c0 : Ctx) (hc0 : c0.m.length = 0) (res : Bool × (List Int)) (J : AR Try.prog tab podestaref01_Text_F c0 (Rp tab.S c0 (.tup [.sc (.string r.1), .sc (.bool r.2)]) []) [.blk 1, .code [1, 1, 1, 0, 1, 0, 0, 1, 1], .loop [1, 1, 1, 0, 1, 0], .blk 0, .code [1, 1, 1, 1]] [(1, .ptr 0 0 none), (4, .own 1 1000000), (5, .sc (.bool res.1)), (6, .sc (.int .i64 ((i : Nat) : Int)))] [.box 31 (Cube.ch c), .row 5 (List.map (intA .u8) res.2) 1000000 true]) :
    ∀ (rest1 : List Bool) (k1 : Nat) (hd : x1.drop k1 = rest1) (out1 : List Int) (H : podestaref01_Text_l1s x2 ok1 rest1 k1 out1 = some res), AR Try.prog tab podestaref01_Text_F c0 (Rp tab.S c0 (.tup [.sc (.string r.1), .sc (.bool r.2)]) []) [.code [1, 1, 1, 0, 1, 0, 0, 1, 0, 0, 1, 1, 1, 0, 0], .loop [1, 1, 1, 0, 1, 0, 0, 1, 0, 0, 1, 1, 1, 0], .blk 2, .blk 1, .code [1, 1, 1, 0, 1, 0, 0, 1, 1], .loop [1, 1, 1, 0, 1, 0], .blk 0, .code [1, 1, 1, 1]] [(1, .ptr 0 0 none), (4, .own 1 1000000), (5, .sc (.bool ok1)), (6, .sc (.int .i64 ((i : Nat) : Int))), (7, .sl 4 (List.map boolA x1) false), (8, .sl 4 (List.map boolA x2) false), (9, .sc (.int .i64 ((k1 : Nat) : Int)))] [.box 31 (Cube.ch c), .row 5 (List.map (intA .u8) out1) 1000000 true] := by
  have hG := tab_ok
  have hm := mixed
  intro rest1
  induction rest1 with
  | nil =>
    intro k1 hd out1 H
    rw [podestaref01_Text_l1s] at H
    refine AR.facts 7 rfl fun hf => ?_
    have hlen : x1.length ≤ 9223372036854775807 := by have hq := len_ok hf.2.1; rw [List.length_map] at hq; exact hq
    have hge : x1.length ≤ k1 := List.drop_eq_nil_iff.1 hd
    have hc : (decide (((k1 : Nat) : Int) < (((List.map boolA x1).length : Nat) : Int))) = false := by rw [List.length_map]; exact decide_eq_false (by omega)
    refine AR.seg hG hm 3 [1, 4, 5, 6, 7, 8, 9, 44] (k' := [.code [1, 1, 1, 0, 1, 0, 0, 1, 0, 0, 1, 1, 1, 0, 0, 0, 1], .code [1, 1, 1, 0, 1, 0, 0, 1, 0, 0, 1, 1, 1, 0, 0, 1], .loop [1, 1, 1, 0, 1, 0, 0, 1, 0, 0, 1, 1, 1, 0], .blk 2, .blk 1, .code [1, 1, 1, 0, 1, 0, 0, 1, 1], .loop [1, 1, 1, 0, 1, 0], .blk 0, .code [1, 1, 1, 1]]) (t' := [(1, .ptr 0 0 none), (4, .own 1 1000000), (5, .sc (.bool ok1)), (6, .sc (.int .i64 ((i : Nat) : Int))), (7, .sl 4 (List.map boolA x1) false), (8, .sl 4 (List.map boolA x2) false), (9, .sc (.int .i64 ((k1 : Nat) : Int))), (44, .sc (.bool (decide (((k1 : Nat) : Int) < (((List.map boolA x1).length : Nat) : Int)))))]) (h' := [.box 31 (Cube.ch c), .row 5 (List.map (intA .u8) out1) 1000000 true]) (by kernel_rfl) ?_
    refine AR.cond (.tmp 44) (decide (((k1 : Nat) : Int) < (((List.map boolA x1).length : Nat) : Int))) (by kernel_rfl) (by kernel_rfl) (fun hb => ?ht74) (fun hb => ?hf74)
    case ht74 => exact absurd (hb.symm.trans hc) (by decide)
    case hf74 =>
      refine AR.seg hG hm 1 [1, 4, 5, 6] (k' := [.blk 1, .code [1, 1, 1, 0, 1, 0, 0, 1, 1], .loop [1, 1, 1, 0, 1, 0], .blk 0, .code [1, 1, 1, 1]]) (t' := [(1, .ptr 0 0 none), (4, .own 1 1000000), (5, .sc (.bool ok1)), (6, .sc (.int .i64 ((i : Nat) : Int)))]) (h' := [.box 31 (Cube.ch c), .row 5 (List.map (intA .u8) out1) 1000000 true]) (by kernel_rfl) ?_
      refine AR.keep [1, 4, 5, 6] (t' := [(1, .ptr 0 0 none), (4, .own 1 1000000), (5, .sc (.bool ok1)), (6, .sc (.int .i64 ((i : Nat) : Int)))]) (by kernel_rfl) ?_
      obtain rfl := Option.some.inj H
      exact J
  | cons x3 rest1 ih =>
    intro k1 hd out1 H
    rw [podestaref01_Text_l1s] at H
    refine AR.facts 7 rfl fun hf => ?_
    have hlen : x1.length ≤ 9223372036854775807 := by have hq := len_ok hf.2.1; rw [List.length_map] at hq; exact hq
    obtain ⟨hlt, hv_k1, hd2⟩ := drop_cons hd
    have hc : (decide (((k1 : Nat) : Int) < (((List.map boolA x1).length : Nat) : Int))) = true := by rw [List.length_map]; exact decide_eq_true (by omega)
    have hw : IntKind.i64.wrap (((k1 : Nat) : Int) + 1) = ((k1 + 1 : Nat) : Int) := wrapI_succ (by omega)
    refine AR.seg hG hm 3 [1, 4, 5, 6, 7, 8, 9, 44] (k' := [.code [1, 1, 1, 0, 1, 0, 0, 1, 0, 0, 1, 1, 1, 0, 0, 0, 1], .code [1, 1, 1, 0, 1, 0, 0, 1, 0, 0, 1, 1, 1, 0, 0, 1], .loop [1, 1, 1, 0, 1, 0, 0, 1, 0, 0, 1, 1, 1, 0], .blk 2, .blk 1, .code [1, 1, 1, 0, 1, 0, 0, 1, 1], .loop [1, 1, 1, 0, 1, 0], .blk 0, .code [1, 1, 1, 1]]) (t' := [(1, .ptr 0 0 none), (4, .own 1 1000000), (5, .sc (.bool ok1)), (6, .sc (.int .i64 ((i : Nat) : Int))), (7, .sl 4 (List.map boolA x1) false), (8, .sl 4 (List.map boolA x2) false), (9, .sc (.int .i64 ((k1 : Nat) : Int))), (44, .sc (.bool (decide (((k1 : Nat) : Int) < (((List.map boolA x1).length : Nat) : Int)))))]) (h' := [.box 31 (Cube.ch c), .row 5 (List.map (intA .u8) out1) 1000000 true]) (by kernel_rfl) ?_
    refine AR.cond (.tmp 44) (decide (((k1 : Nat) : Int) < (((List.map boolA x1).length : Nat) : Int))) (by kernel_rfl) (by kernel_rfl) (fun hb => ?ht75) (fun hb => ?hf75)
    case ht75 =>
      refine AR.seg hG hm 5 [1, 4, 5, 6, 7, 8, 9] (k' := [.code [1, 1, 1, 0, 1, 0, 0, 1, 0, 0, 1, 1, 1, 0, 0, 1, 0, 0, 0, 0], .code [1, 1, 1, 0, 1, 0, 0, 1, 0, 0, 1, 1, 1, 0, 0, 1, 0, 0, 0, 1], .blk 4, .blk 3, .code [1, 1, 1, 0, 1, 0, 0, 1, 0, 0, 1, 1, 1, 0, 0, 1, 1], .loop [1, 1, 1, 0, 1, 0, 0, 1, 0, 0, 1, 1, 1, 0], .blk 2, .blk 1, .code [1, 1, 1, 0, 1, 0, 0, 1, 1], .loop [1, 1, 1, 0, 1, 0], .blk 0, .code [1, 1, 1, 1]]) (t' := [(1, .ptr 0 0 none), (4, .own 1 1000000), (5, .sc (.bool ok1)), (6, .sc (.int .i64 ((i : Nat) : Int))), (7, .sl 4 (List.map boolA x1) false), (8, .sl 4 (List.map boolA x2) false), (9, .sc (.int .i64 ((k1 : Nat) : Int)))]) (h' := [.box 31 (Cube.ch c), .row 5 (List.map (intA .u8) out1) 1000000 true]) (by kernel_rfl) ?_
      refine AR.reg hm podestaref01_Text_k3 (by kernel_rfl) ?_
      refine DK.seg hG 2 [1, 4, 5, 6, 7, 8, 9, 51, 52] (t' := [(1, .ptr 0 0 none), (4, .own 1 1000000), (5, .sc (.bool ok1)), (6, .sc (.int .i64 ((i : Nat) : Int))), (7, .sl 4 (List.map boolA x1) false), (8, .sl 4 (List.map boolA x2) false), (9, .sc (.int .i64 ((k1 : Nat) : Int))), (51, .sl 4 (List.map boolA x2) false), (52, .sc (.int .i64 ((k1 : Nat) : Int)))]) (h' := [.box 31 (Cube.ch c), .row 5 (List.map (intA .u8) out1) 1000000 true]) (by kernel_rfl) rfl ?_
      obtain ⟨x4, hv, H⟩ := Option.bind_eq_some_iff.1 H
      refine DK.op' [1, 4, 5, 6, 7, 8, 9, 53] (t' := [(1, .ptr 0 0 none), (4, .own 1 1000000), (5, .sc (.bool ok1)), (6, .sc (.int .i64 ((i : Nat) : Int))), (7, .sl 4 (List.map boolA x1) false), (8, .sl 4 (List.map boolA x2) false), (9, .sc (.int .i64 ((k1 : Nat) : Int))), (53, .ep [.sc (.bool x4)] 0 none)]) (h' := [.box 31 (Cube.ch c), .row 5 (List.map (intA .u8) out1) 1000000 true]) (LSpec.index' (r := .sc (.bool x4)) (fs := [.sc (.bool x4)]) hG (rows := List.map boolA x2) (j := ((k1 : Nat) : Int)) (by kernel_rfl) (ixO_map hv _) (by kernel_rfl)) (by kernel_rfl) rfl (by kernel_rfl) rfl ?_
      refine DK.seg hG 3 [1, 4, 5, 6, 7, 8, 9, 50] (t' := [(1, .ptr 0 0 none), (4, .own 1 1000000), (5, .sc (.bool ok1)), (6, .sc (.int .i64 ((i : Nat) : Int))), (7, .sl 4 (List.map boolA x1) false), (8, .sl 4 (List.map boolA x2) false), (9, .sc (.int .i64 ((k1 : Nat) : Int))), (50, .sc (.bool (!x4)))]) (h' := [.box 31 (Cube.ch c), .row 5 (List.map (intA .u8) out1) 1000000 true]) (by kernel_rfl) rfl ?_
      refine DK.done (by kernel_rfl) (by kernel_rfl) ?_
      refine AR.cond (.tmp 50) (!x4) (by kernel_rfl) (by kernel_rfl) (fun hb => ?ht76) (fun hb => ?hf76)
      case ht76 =>
        replace H := cond_t hb H
        refine AR.reg hm podestaref01_Text_k4 (by kernel_rfl) ?_
        refine DK.seg hG 2 [1, 5, 6, 7, 8, 9, 56, 57] (t' := [(1, .ptr 0 0 none), (5, .sc (.bool ok1)), (6, .sc (.int .i64 ((i : Nat) : Int))), (7, .sl 4 (List.map boolA x1) false), (8, .sl 4 (List.map boolA x2) false), (9, .sc (.int .i64 ((k1 : Nat) : Int))), (56, .own 1 1000000), (57, .sl 5 (List.map (intA .u8) [120]) true)]) (h' := [.box 31 (Cube.ch c), .row 5 (List.map (intA .u8) out1) 1000000 true]) (by kernel_rfl) rfl ?_
        obtain ⟨hfit, H⟩ := fitO_some H
        refine DK.op' [1, 5, 6, 7, 8, 9, 58] (t' := [(1, .ptr 0 0 none), (5, .sc (.bool ok1)), (6, .sc (.int .i64 ((i : Nat) : Int))), (7, .sl 4 (List.map boolA x1) false), (8, .sl 4 (List.map boolA x2) false), (9, .sc (.int .i64 ((k1 : Nat) : Int))), (58, .own 1 1000001)]) (h' := [.box 31 (Cube.ch c), .row 5 (List.map (intA .u8) (out1 ++ [120])) 1000001 true]) (LSpec.append' hG (intA .u8) out1 [120] 1 1000000 5 1 hfit (by kernel_rfl)) (by kernel_rfl) (by kernel_rfl) (by kernel_rfl) rfl ?_
        refine DK.seg hG 1 [1, 4, 5, 6, 7, 8, 9] (t' := [(1, .ptr 0 0 none), (4, .own 1 1000001), (5, .sc (.bool ok1)), (6, .sc (.int .i64 ((i : Nat) : Int))), (7, .sl 4 (List.map boolA x1) false), (8, .sl 4 (List.map boolA x2) false), (9, .sc (.int .i64 ((k1 : Nat) : Int)))]) (h' := [.box 31 (Cube.ch c), .row 5 (List.map (intA .u8) (out1 ++ [120])) 1000001 true]) (by kernel_rfl) rfl ?_
        refine DK.done (by kernel_rfl) (by kernel_rfl) ?_
        refine AR.seg hG hm 3 [1, 4, 5, 6, 7, 8, 9] (k' := [.loop [1, 1, 1, 0, 1, 0, 0, 1, 0, 0, 1, 1, 1, 0], .blk 2, .blk 1, .code [1, 1, 1, 0, 1, 0, 0, 1, 1], .loop [1, 1, 1, 0, 1, 0], .blk 0, .code [1, 1, 1, 1]]) (t' := [(1, .ptr 0 0 none), (4, .own 1 1000001), (5, .sc (.bool ok1)), (6, .sc (.int .i64 ((i : Nat) : Int))), (7, .sl 4 (List.map boolA x1) false), (8, .sl 4 (List.map boolA x2) false), (9, .sc (.int .i64 (IntKind.i64.wrap (((k1 : Nat) : Int) + 1))))]) (h' := [.box 31 (Cube.ch c), .row 5 (List.map (intA .u8) (out1 ++ [120])) 1000001 true]) (by kernel_rfl) ?_
        refine AR.keep [1, 4, 5, 6, 7, 8, 9] (t' := [(1, .ptr 0 0 none), (4, .own 1 1000001), (5, .sc (.bool ok1)), (6, .sc (.int .i64 ((i : Nat) : Int))), (7, .sl 4 (List.map boolA x1) false), (8, .sl 4 (List.map boolA x2) false), (9, .sc (.int .i64 (IntKind.i64.wrap (((k1 : Nat) : Int) + 1))))]) (by kernel_rfl) ?_
        refine AR.norm' 1 1000000 hc0 (t' := [(1, .ptr 0 0 none), (4, .own 1 1000000), (5, .sc (.bool ok1)), (6, .sc (.int .i64 ((i : Nat) : Int))), (7, .sl 4 (List.map boolA x1) false), (8, .sl 4 (List.map boolA x2) false), (9, .sc (.int .i64 (IntKind.i64.wrap (((k1 : Nat) : Int) + 1))))]) (h' := [.box 31 (Cube.ch c), .row 5 (List.map (intA .u8) (out1 ++ [120])) 1000000 true]) (by kernel_rfl) ?_
        refine AR.loop_round ?_
        rw [hw]
        exact ih (k1 + 1) hd2 (out1 ++ [120]) H
      case hf76 =>
        replace H := cond_f hb H
        refine AR.seg hG hm 1 [1, 4, 5, 6, 7, 8, 9] (k' := [.code [1, 1, 1, 0, 1, 0, 0, 1, 0, 0, 1, 1, 1, 0, 0, 1, 0, 0, 0, 1, 1, 0], .code [1, 1, 1, 0, 1, 0, 0, 1, 0, 0, 1, 1, 1, 0, 0, 1, 0, 0, 0, 1, 1, 1], .blk 4, .blk 3, .code [1, 1, 1, 0, 1, 0, 0, 1, 0, 0, 1, 1, 1, 0, 0, 1, 1], .loop [1, 1, 1, 0, 1, 0, 0, 1, 0, 0, 1, 1, 1, 0], .blk 2, .blk 1, .code [1, 1, 1, 0, 1, 0, 0, 1, 1], .loop [1, 1, 1, 0, 1, 0], .blk 0, .code [1, 1, 1, 1]]) (t' := [(1, .ptr 0 0 none), (4, .own 1 1000000), (5, .sc (.bool ok1)), (6, .sc (.int .i64 ((i : Nat) : Int))), (7, .sl 4 (List.map boolA x1) false), (8, .sl 4 (List.map boolA x2) false), (9, .sc (.int .i64 ((k1 : Nat) : Int)))]) (h' := [.box 31 (Cube.ch c), .row 5 (List.map (intA .u8) out1) 1000000 true]) (by kernel_rfl) ?_
        refine AR.reg hm podestaref01_Text_k5 (by kernel_rfl) ?_
        refine DK.seg hG 2 [1, 4, 5, 6, 7, 8, 9, 60, 61] (t' := [(1, .ptr 0 0 none), (4, .own 1 1000000), (5, .sc (.bool ok1)), (6, .sc (.int .i64 ((i : Nat) : Int))), (7, .sl 4 (List.map boolA x1) false), (8, .sl 4 (List.map boolA x2) false), (9, .sc (.int .i64 ((k1 : Nat) : Int))), (60, .sl 4 (List.map boolA x1) false), (61, .sc (.int .i64 ((k1 : Nat) : Int)))]) (h' := [.box 31 (Cube.ch c), .row 5 (List.map (intA .u8) out1) 1000000 true]) (by kernel_rfl) rfl ?_
        refine DK.op' [1, 4, 5, 6, 7, 8, 9, 62] (t' := [(1, .ptr 0 0 none), (4, .own 1 1000000), (5, .sc (.bool ok1)), (6, .sc (.int .i64 ((i : Nat) : Int))), (7, .sl 4 (List.map boolA x1) false), (8, .sl 4 (List.map boolA x2) false), (9, .sc (.int .i64 ((k1 : Nat) : Int))), (62, .ep [.sc (.bool x3)] 0 none)]) (h' := [.box 31 (Cube.ch c), .row 5 (List.map (intA .u8) out1) 1000000 true]) (LSpec.index' (r := .sc (.bool x3)) (fs := [.sc (.bool x3)]) hG (rows := List.map boolA x1) (j := ((k1 : Nat) : Int)) (by kernel_rfl) (ixO_map hv_k1 _) (by kernel_rfl)) (by kernel_rfl) rfl (by kernel_rfl) rfl ?_
        refine DK.seg hG 2 [1, 4, 5, 6, 7, 8, 9, 59] (t' := [(1, .ptr 0 0 none), (4, .own 1 1000000), (5, .sc (.bool ok1)), (6, .sc (.int .i64 ((i : Nat) : Int))), (7, .sl 4 (List.map boolA x1) false), (8, .sl 4 (List.map boolA x2) false), (9, .sc (.int .i64 ((k1 : Nat) : Int))), (59, .sc (.bool x3))]) (h' := [.box 31 (Cube.ch c), .row 5 (List.map (intA .u8) out1) 1000000 true]) (by kernel_rfl) rfl ?_
        refine DK.done (by kernel_rfl) (by kernel_rfl) ?_
        refine AR.cond (.tmp 59) x3 (by kernel_rfl) (by kernel_rfl) (fun hb => ?ht77) (fun hb => ?hf77)
        case ht77 =>
          replace H := cond_t hb H
          refine AR.reg hm podestaref01_Text_k6 (by kernel_rfl) ?_
          refine DK.seg hG 2 [1, 5, 6, 7, 8, 9, 64, 65] (t' := [(1, .ptr 0 0 none), (5, .sc (.bool ok1)), (6, .sc (.int .i64 ((i : Nat) : Int))), (7, .sl 4 (List.map boolA x1) false), (8, .sl 4 (List.map boolA x2) false), (9, .sc (.int .i64 ((k1 : Nat) : Int))), (64, .own 1 1000000), (65, .sl 5 (List.map (intA .u8) [49]) true)]) (h' := [.box 31 (Cube.ch c), .row 5 (List.map (intA .u8) out1) 1000000 true]) (by kernel_rfl) rfl ?_
          obtain ⟨hfit, H⟩ := fitO_some H
          refine DK.op' [1, 5, 6, 7, 8, 9, 66] (t' := [(1, .ptr 0 0 none), (5, .sc (.bool ok1)), (6, .sc (.int .i64 ((i : Nat) : Int))), (7, .sl 4 (List.map boolA x1) false), (8, .sl 4 (List.map boolA x2) false), (9, .sc (.int .i64 ((k1 : Nat) : Int))), (66, .own 1 1000001)]) (h' := [.box 31 (Cube.ch c), .row 5 (List.map (intA .u8) (out1 ++ [49])) 1000001 true]) (LSpec.append' hG (intA .u8) out1 [49] 1 1000000 5 1 hfit (by kernel_rfl)) (by kernel_rfl) (by kernel_rfl) (by kernel_rfl) rfl ?_
          refine DK.seg hG 1 [1, 4, 5, 6, 7, 8, 9] (t' := [(1, .ptr 0 0 none), (4, .own 1 1000001), (5, .sc (.bool ok1)), (6, .sc (.int .i64 ((i : Nat) : Int))), (7, .sl 4 (List.map boolA x1) false), (8, .sl 4 (List.map boolA x2) false), (9, .sc (.int .i64 ((k1 : Nat) : Int)))]) (h' := [.box 31 (Cube.ch c), .row 5 (List.map (intA .u8) (out1 ++ [49])) 1000001 true]) (by kernel_rfl) rfl ?_
          refine DK.done (by kernel_rfl) (by kernel_rfl) ?_
          refine AR.seg hG hm 3 [1, 4, 5, 6, 7, 8, 9] (k' := [.loop [1, 1, 1, 0, 1, 0, 0, 1, 0, 0, 1, 1, 1, 0], .blk 2, .blk 1, .code [1, 1, 1, 0, 1, 0, 0, 1, 1], .loop [1, 1, 1, 0, 1, 0], .blk 0, .code [1, 1, 1, 1]]) (t' := [(1, .ptr 0 0 none), (4, .own 1 1000001), (5, .sc (.bool ok1)), (6, .sc (.int .i64 ((i : Nat) : Int))), (7, .sl 4 (List.map boolA x1) false), (8, .sl 4 (List.map boolA x2) false), (9, .sc (.int .i64 (IntKind.i64.wrap (((k1 : Nat) : Int) + 1))))]) (h' := [.box 31 (Cube.ch c), .row 5 (List.map (intA .u8) (out1 ++ [49])) 1000001 true]) (by kernel_rfl) ?_
          refine AR.keep [1, 4, 5, 6, 7, 8, 9] (t' := [(1, .ptr 0 0 none), (4, .own 1 1000001), (5, .sc (.bool ok1)), (6, .sc (.int .i64 ((i : Nat) : Int))), (7, .sl 4 (List.map boolA x1) false), (8, .sl 4 (List.map boolA x2) false), (9, .sc (.int .i64 (IntKind.i64.wrap (((k1 : Nat) : Int) + 1))))]) (by kernel_rfl) ?_
          refine AR.norm' 1 1000000 hc0 (t' := [(1, .ptr 0 0 none), (4, .own 1 1000000), (5, .sc (.bool ok1)), (6, .sc (.int .i64 ((i : Nat) : Int))), (7, .sl 4 (List.map boolA x1) false), (8, .sl 4 (List.map boolA x2) false), (9, .sc (.int .i64 (IntKind.i64.wrap (((k1 : Nat) : Int) + 1))))]) (h' := [.box 31 (Cube.ch c), .row 5 (List.map (intA .u8) (out1 ++ [49])) 1000000 true]) (by kernel_rfl) ?_
          refine AR.loop_round ?_
          rw [hw]
          exact ih (k1 + 1) hd2 (out1 ++ [49]) H
        case hf77 =>
          replace H := cond_f hb H
          refine AR.reg hm podestaref01_Text_k7 (by kernel_rfl) ?_
          refine DK.seg hG 2 [1, 5, 6, 7, 8, 9, 47, 48] (t' := [(1, .ptr 0 0 none), (5, .sc (.bool ok1)), (6, .sc (.int .i64 ((i : Nat) : Int))), (7, .sl 4 (List.map boolA x1) false), (8, .sl 4 (List.map boolA x2) false), (9, .sc (.int .i64 ((k1 : Nat) : Int))), (47, .own 1 1000000), (48, .sl 5 (List.map (intA .u8) [48]) true)]) (h' := [.box 31 (Cube.ch c), .row 5 (List.map (intA .u8) out1) 1000000 true]) (by kernel_rfl) rfl ?_
          obtain ⟨hfit, H⟩ := fitO_some H
          refine DK.op' [1, 5, 6, 7, 8, 9, 49] (t' := [(1, .ptr 0 0 none), (5, .sc (.bool ok1)), (6, .sc (.int .i64 ((i : Nat) : Int))), (7, .sl 4 (List.map boolA x1) false), (8, .sl 4 (List.map boolA x2) false), (9, .sc (.int .i64 ((k1 : Nat) : Int))), (49, .own 1 1000001)]) (h' := [.box 31 (Cube.ch c), .row 5 (List.map (intA .u8) (out1 ++ [48])) 1000001 true]) (LSpec.append' hG (intA .u8) out1 [48] 1 1000000 5 1 hfit (by kernel_rfl)) (by kernel_rfl) (by kernel_rfl) (by kernel_rfl) rfl ?_
          refine DK.seg hG 1 [1, 4, 5, 6, 7, 8, 9] (t' := [(1, .ptr 0 0 none), (4, .own 1 1000001), (5, .sc (.bool ok1)), (6, .sc (.int .i64 ((i : Nat) : Int))), (7, .sl 4 (List.map boolA x1) false), (8, .sl 4 (List.map boolA x2) false), (9, .sc (.int .i64 ((k1 : Nat) : Int)))]) (h' := [.box 31 (Cube.ch c), .row 5 (List.map (intA .u8) (out1 ++ [48])) 1000001 true]) (by kernel_rfl) rfl ?_
          refine DK.done (by kernel_rfl) (by kernel_rfl) ?_
          refine AR.seg hG hm 3 [1, 4, 5, 6, 7, 8, 9] (k' := [.loop [1, 1, 1, 0, 1, 0, 0, 1, 0, 0, 1, 1, 1, 0], .blk 2, .blk 1, .code [1, 1, 1, 0, 1, 0, 0, 1, 1], .loop [1, 1, 1, 0, 1, 0], .blk 0, .code [1, 1, 1, 1]]) (t' := [(1, .ptr 0 0 none), (4, .own 1 1000001), (5, .sc (.bool ok1)), (6, .sc (.int .i64 ((i : Nat) : Int))), (7, .sl 4 (List.map boolA x1) false), (8, .sl 4 (List.map boolA x2) false), (9, .sc (.int .i64 (IntKind.i64.wrap (((k1 : Nat) : Int) + 1))))]) (h' := [.box 31 (Cube.ch c), .row 5 (List.map (intA .u8) (out1 ++ [48])) 1000001 true]) (by kernel_rfl) ?_
          refine AR.keep [1, 4, 5, 6, 7, 8, 9] (t' := [(1, .ptr 0 0 none), (4, .own 1 1000001), (5, .sc (.bool ok1)), (6, .sc (.int .i64 ((i : Nat) : Int))), (7, .sl 4 (List.map boolA x1) false), (8, .sl 4 (List.map boolA x2) false), (9, .sc (.int .i64 (IntKind.i64.wrap (((k1 : Nat) : Int) + 1))))]) (by kernel_rfl) ?_
          refine AR.norm' 1 1000000 hc0 (t' := [(1, .ptr 0 0 none), (4, .own 1 1000000), (5, .sc (.bool ok1)), (6, .sc (.int .i64 ((i : Nat) : Int))), (7, .sl 4 (List.map boolA x1) false), (8, .sl 4 (List.map boolA x2) false), (9, .sc (.int .i64 (IntKind.i64.wrap (((k1 : Nat) : Int) + 1))))]) (h' := [.box 31 (Cube.ch c), .row 5 (List.map (intA .u8) (out1 ++ [48])) 1000000 true]) (by kernel_rfl) ?_
          refine AR.loop_round ?_
          rw [hw]
          exact ih (k1 + 1) hd2 (out1 ++ [48]) H
    case hf75 => exact absurd (hc.symm.trans hb) (by decide)

def podestaref01_Text_l0s (c : Cube) : Nat → Nat → Bool → List Int → Option (Bool × (List Int))
  | 0, i, ok, out =>
    some (ok, out)
  | rest + 1, i, ok, out =>
    (bitsO (c.Value.getD (i) 0) (sizeT ((i : Nat) : Int))).bind fun x1 =>
    (bitsO (c.Care.getD (i) 0) (sizeT ((i : Nat) : Int))).bind fun x2 =>
    (podestaref01_Text_l1s x2 (bif ((IntKind.u64.wrap ((BitVec.ofInt 64 (c.Value.getD (i) 0) &&& ~~~ (BitVec.ofInt 64 (c.Care.getD (i) 0))).toNat)) != 0) then false else ok) x1 0 out).bind fun v =>
    podestaref01_Text_l0s c rest (i + 1) v.1 v.2
theorem podestaref01_Text_l0_walk (c : Cube) (r : ByteArray × Bool) (c0 : Ctx) (hc0 : c0.m.length = 0) (res : Bool × (List Int)) (J : AR Try.prog tab podestaref01_Text_F c0 (Rp tab.S c0 (.tup [.sc (.string r.1), .sc (.bool r.2)]) []) [.code [1, 1, 1, 1]] [(4, .own 1 1000000), (5, .sc (.bool res.1))] [.box 31 (Cube.ch c), .row 5 (List.map (intA .u8) res.2) 1000000 true]) :
    ∀ (rest : Nat) (i : Nat) (hd : i + rest = 12) (ok : Bool) (out : List Int) (H : podestaref01_Text_l0s c rest i ok out = some res), AR Try.prog tab podestaref01_Text_F c0 (Rp tab.S c0 (.tup [.sc (.string r.1), .sc (.bool r.2)]) []) [.code [1, 1, 1, 0, 1, 0, 0], .loop [1, 1, 1, 0, 1, 0], .blk 0, .code [1, 1, 1, 1]] [(1, .ptr 0 0 none), (4, .own 1 1000000), (5, .sc (.bool ok)), (6, .sc (.int .i64 ((i : Nat) : Int)))] [.box 31 (Cube.ch c), .row 5 (List.map (intA .u8) out) 1000000 true] := by
  have hG := tab_ok
  have hm := mixed
  intro rest
  induction rest with
  | zero =>
    intro i hd ok out H
    rw [podestaref01_Text_l0s] at H
    have hc : (decide (((i : Nat) : Int) < 12)) = false := decide_eq_false (by omega)
    refine AR.seg hG hm 3 [1, 4, 5, 6, 14] (k' := [.code [1, 1, 1, 0, 1, 0, 0, 0, 1], .code [1, 1, 1, 0, 1, 0, 0, 1], .loop [1, 1, 1, 0, 1, 0], .blk 0, .code [1, 1, 1, 1]]) (t' := [(1, .ptr 0 0 none), (4, .own 1 1000000), (5, .sc (.bool ok)), (6, .sc (.int .i64 ((i : Nat) : Int))), (14, .sc (.bool (decide (((i : Nat) : Int) < 12))))]) (h' := [.box 31 (Cube.ch c), .row 5 (List.map (intA .u8) out) 1000000 true]) (by kernel_rfl) ?_
    refine AR.cond (.tmp 14) (decide (((i : Nat) : Int) < 12)) (by kernel_rfl) (by kernel_rfl) (fun hb => ?ht59) (fun hb => ?hf59)
    case ht59 => exact absurd (hb.symm.trans hc) (by decide)
    case hf59 =>
      refine AR.seg hG hm 1 [4, 5] (k' := [.code [1, 1, 1, 1]]) (t' := [(4, .own 1 1000000), (5, .sc (.bool ok))]) (h' := [.box 31 (Cube.ch c), .row 5 (List.map (intA .u8) out) 1000000 true]) (by kernel_rfl) ?_
      refine AR.keep [4, 5] (t' := [(4, .own 1 1000000), (5, .sc (.bool ok))]) (by kernel_rfl) ?_
      obtain rfl := Option.some.inj H
      exact J
  | succ rest ih =>
    intro i hd ok out H
    rw [podestaref01_Text_l0s] at H
    have hlt_i : i < 12 := by omega
    have hc : (decide (((i : Nat) : Int) < 12)) = true := decide_eq_true (by omega)
    have hw : IntKind.i64.wrap (((i : Nat) : Int) + 1) = ((i + 1 : Nat) : Int) := wrapI_succ (by omega)
    refine AR.seg hG hm 3 [1, 4, 5, 6, 14] (k' := [.code [1, 1, 1, 0, 1, 0, 0, 0, 1], .code [1, 1, 1, 0, 1, 0, 0, 1], .loop [1, 1, 1, 0, 1, 0], .blk 0, .code [1, 1, 1, 1]]) (t' := [(1, .ptr 0 0 none), (4, .own 1 1000000), (5, .sc (.bool ok)), (6, .sc (.int .i64 ((i : Nat) : Int))), (14, .sc (.bool (decide (((i : Nat) : Int) < 12))))]) (h' := [.box 31 (Cube.ch c), .row 5 (List.map (intA .u8) out) 1000000 true]) (by kernel_rfl) ?_
    refine AR.cond (.tmp 14) (decide (((i : Nat) : Int) < 12)) (by kernel_rfl) (by kernel_rfl) (fun hb => ?ht60) (fun hb => ?hf60)
    case ht60 =>
      refine AR.seg hG hm 5 [1, 4, 5, 6] (k' := [.code [1, 1, 1, 0, 1, 0, 0, 1, 0, 0, 0, 0], .code [1, 1, 1, 0, 1, 0, 0, 1, 0, 0, 0, 1], .code [1, 1, 1, 0, 1, 0, 0, 1, 0, 0, 1], .blk 1, .code [1, 1, 1, 0, 1, 0, 0, 1, 1], .loop [1, 1, 1, 0, 1, 0], .blk 0, .code [1, 1, 1, 1]]) (t' := [(1, .ptr 0 0 none), (4, .own 1 1000000), (5, .sc (.bool ok)), (6, .sc (.int .i64 ((i : Nat) : Int)))]) (h' := [.box 31 (Cube.ch c), .row 5 (List.map (intA .u8) out) 1000000 true]) (by kernel_rfl) ?_
      refine AR.reg hm podestaref01_Text_k1 (by kernel_rfl) ?_
      refine DK.seg hG 2 [1, 4, 5, 6, 17, 18] (t' := [(1, .ptr 0 0 none), (4, .own 1 1000000), (5, .sc (.bool ok)), (6, .sc (.int .i64 ((i : Nat) : Int))), (17, .sc (.int .i64 ((i : Nat) : Int))), (18, .ptr 0 0 none)]) (h' := [.box 31 (Cube.ch c), .row 5 (List.map (intA .u8) out) 1000000 true]) (by kernel_rfl) rfl ?_
      have hreq := idx_in 12 hlt_i (by decide)
      refine DK.op' [1, 4, 5, 6, 19] (t' := [(1, .ptr 0 0 none), (4, .own 1 1000000), (5, .sc (.bool ok)), (6, .sc (.int .i64 ((i : Nat) : Int))), (19, .ptr 0 0 (some (i, 12)))]) (h' := [.box 31 (Cube.ch c), .row 5 (List.map (intA .u8) out) 1000000 true]) (LSpec.idxPtr (o := 0) (off := 0) (m := 12) (j := ((i : Nat) : Int)) hG hreq (by kernel_rfl)) (by kernel_rfl) rfl (by kernel_rfl) rfl ?_
      refine DK.seg hG 3 [1, 4, 5, 6, 20, 21, 22] (t' := [(1, .ptr 0 0 none), (4, .own 1 1000000), (5, .sc (.bool ok)), (6, .sc (.int .i64 ((i : Nat) : Int))), (20, .sc (.int .u64 (c.Value.getD (i) 0))), (21, .sc (.int .i64 ((i : Nat) : Int))), (22, .ptr 0 12 none)]) (h' := [.box 31 (Cube.ch c), .row 5 (List.map (intA .u8) out) 1000000 true]) (by kernel_rfl) rfl ?_
      have hreq := idx_in 12 hlt_i (by decide)
      refine DK.op' [1, 4, 5, 6, 20, 23] (t' := [(1, .ptr 0 0 none), (4, .own 1 1000000), (5, .sc (.bool ok)), (6, .sc (.int .i64 ((i : Nat) : Int))), (20, .sc (.int .u64 (c.Value.getD (i) 0))), (23, .ptr 0 12 (some (i, 12)))]) (h' := [.box 31 (Cube.ch c), .row 5 (List.map (intA .u8) out) 1000000 true]) (LSpec.idxPtr (o := 0) (off := 12) (m := 12) (j := ((i : Nat) : Int)) hG hreq (by kernel_rfl)) (by kernel_rfl) rfl (by kernel_rfl) rfl ?_
      refine DK.seg hG 3 [1, 4, 5, 6, 26] (t' := [(1, .ptr 0 0 none), (4, .own 1 1000000), (5, .sc (.bool ok)), (6, .sc (.int .i64 ((i : Nat) : Int))), (26, .sc (.bool ((IntKind.u64.wrap ((BitVec.ofInt 64 (c.Value.getD (i) 0) &&& ~~~ (BitVec.ofInt 64 (c.Care.getD (i) 0))).toNat)) != 0)))]) (h' := [.box 31 (Cube.ch c), .row 5 (List.map (intA .u8) out) 1000000 true]) (by kernel_rfl) rfl ?_
      refine DK.done (by kernel_rfl) (by kernel_rfl) ?_
      refine AR.join (.tmp 26) ((IntKind.u64.wrap ((BitVec.ofInt 64 (c.Value.getD (i) 0) &&& ~~~ (BitVec.ofInt 64 (c.Care.getD (i) 0))).toNat)) != 0) (k' := [.code [1, 1, 1, 0, 1, 0, 0, 1, 0, 0, 1], .blk 1, .code [1, 1, 1, 0, 1, 0, 0, 1, 1], .loop [1, 1, 1, 0, 1, 0], .blk 0, .code [1, 1, 1, 1]]) (h' := [.box 31 (Cube.ch c), .row 5 (List.map (intA .u8) out) 1000000 true]) (by kernel_rfl) (by kernel_rfl) (fun z => [(1, .ptr 0 0 none), (4, .own 1 1000000), (5, .sc (.bool (bif z then false else ok))), (6, .sc (.int .i64 ((i : Nat) : Int)))]) ?J61 (fun hb J => ?ht61) (fun hb J => ?hf61)
      case ht61 =>
        exact AR.seg hG hm 1 [1, 4, 5, 6] (by kernel_rfl) J
      case hf61 =>
        exact AR.seg hG hm 1 [1, 4, 5, 6] (by kernel_rfl) J
      refine AR.seg hG hm 1 [1, 4, 5, 6] (k' := [.code [1, 1, 1, 0, 1, 0, 0, 1, 0, 0, 1, 0], .code [1, 1, 1, 0, 1, 0, 0, 1, 0, 0, 1, 1], .blk 1, .code [1, 1, 1, 0, 1, 0, 0, 1, 1], .loop [1, 1, 1, 0, 1, 0], .blk 0, .code [1, 1, 1, 1]]) (t' := [(1, .ptr 0 0 none), (4, .own 1 1000000), (5, .sc (.bool (bif ((IntKind.u64.wrap ((BitVec.ofInt 64 (c.Value.getD (i) 0) &&& ~~~ (BitVec.ofInt 64 (c.Care.getD (i) 0))).toNat)) != 0) then false else ok))), (6, .sc (.int .i64 ((i : Nat) : Int)))]) (h' := [.box 31 (Cube.ch c), .row 5 (List.map (intA .u8) out) 1000000 true]) (by kernel_rfl) ?_
      refine AR.reg hm podestaref01_Text_k2 (by kernel_rfl) ?_
      refine DK.seg hG 2 [1, 4, 5, 6, 27, 28] (t' := [(1, .ptr 0 0 none), (4, .own 1 1000000), (5, .sc (.bool (bif ((IntKind.u64.wrap ((BitVec.ofInt 64 (c.Value.getD (i) 0) &&& ~~~ (BitVec.ofInt 64 (c.Care.getD (i) 0))).toNat)) != 0) then false else ok))), (6, .sc (.int .i64 ((i : Nat) : Int))), (27, .sc (.int .i64 ((i : Nat) : Int))), (28, .ptr 0 0 none)]) (h' := [.box 31 (Cube.ch c), .row 5 (List.map (intA .u8) out) 1000000 true]) (by kernel_rfl) rfl ?_
      have hreq := idx_in 12 hlt_i (by decide)
      refine DK.op' [1, 4, 5, 6, 29] (t' := [(1, .ptr 0 0 none), (4, .own 1 1000000), (5, .sc (.bool (bif ((IntKind.u64.wrap ((BitVec.ofInt 64 (c.Value.getD (i) 0) &&& ~~~ (BitVec.ofInt 64 (c.Care.getD (i) 0))).toNat)) != 0) then false else ok))), (6, .sc (.int .i64 ((i : Nat) : Int))), (29, .ptr 0 0 (some (i, 12)))]) (h' := [.box 31 (Cube.ch c), .row 5 (List.map (intA .u8) out) 1000000 true]) (LSpec.idxPtr (o := 0) (off := 0) (m := 12) (j := ((i : Nat) : Int)) hG hreq (by kernel_rfl)) (by kernel_rfl) rfl (by kernel_rfl) rfl ?_
      refine DK.seg hG 2 [1, 4, 5, 6, 30, 31] (t' := [(1, .ptr 0 0 none), (4, .own 1 1000000), (5, .sc (.bool (bif ((IntKind.u64.wrap ((BitVec.ofInt 64 (c.Value.getD (i) 0) &&& ~~~ (BitVec.ofInt 64 (c.Care.getD (i) 0))).toNat)) != 0) then false else ok))), (6, .sc (.int .i64 ((i : Nat) : Int))), (30, .sc (.int .u64 (c.Value.getD (i) 0))), (31, .sc (.int .i64 ((i : Nat) : Int)))]) (h' := [.box 31 (Cube.ch c), .row 5 (List.map (intA .u8) out) 1000000 true]) (by kernel_rfl) rfl ?_
      refine DK.op' [1, 4, 5, 6, 30, 32] (t' := [(1, .ptr 0 0 none), (4, .own 1 1000000), (5, .sc (.bool (bif ((IntKind.u64.wrap ((BitVec.ofInt 64 (c.Value.getD (i) 0) &&& ~~~ (BitVec.ofInt 64 (c.Care.getD (i) 0))).toNat)) != 0) then false else ok))), (6, .sc (.int .i64 ((i : Nat) : Int))), (30, .sc (.int .u64 (c.Value.getD (i) 0))), (32, .sc (.int .i64 (sizeT ((i : Nat) : Int))))]) (h' := [.box 31 (Cube.ch c), .row 5 (List.map (intA .u8) out) 1000000 true]) (LSpec.callP' (podestaref01_Size_ok ((i : Nat) : Int)) (by kernel_rfl)) (by kernel_rfl) rfl (by kernel_rfl) rfl ?_
      obtain ⟨x1, hv, H⟩ := Option.bind_eq_some_iff.1 H
      refine DK.op' [1, 4, 5, 6, 33] (t' := [(1, .ptr 0 0 none), (4, .own 1 1000000), (5, .sc (.bool (bif ((IntKind.u64.wrap ((BitVec.ofInt 64 (c.Value.getD (i) 0) &&& ~~~ (BitVec.ofInt 64 (c.Care.getD (i) 0))).toNat)) != 0) then false else ok))), (6, .sc (.int .i64 ((i : Nat) : Int))), (33, .sl 4 (List.map boolA x1) false)]) (h' := [.box 31 (Cube.ch c), .row 5 (List.map (intA .u8) out) 1000000 true]) (LSpec.callP' (podestaref01_Bits_ok (c.Value.getD (i) 0) (sizeT ((i : Nat) : Int)) x1 hv) (by kernel_rfl)) (by kernel_rfl) rfl (by kernel_rfl) rfl ?_
      refine DK.seg hG 2 [1, 4, 5, 6, 33, 34, 35] (t' := [(1, .ptr 0 0 none), (4, .own 1 1000000), (5, .sc (.bool (bif ((IntKind.u64.wrap ((BitVec.ofInt 64 (c.Value.getD (i) 0) &&& ~~~ (BitVec.ofInt 64 (c.Care.getD (i) 0))).toNat)) != 0) then false else ok))), (6, .sc (.int .i64 ((i : Nat) : Int))), (33, .sl 4 (List.map boolA x1) false), (34, .sc (.int .i64 ((i : Nat) : Int))), (35, .ptr 0 12 none)]) (h' := [.box 31 (Cube.ch c), .row 5 (List.map (intA .u8) out) 1000000 true]) (by kernel_rfl) rfl ?_
      have hreq := idx_in 12 hlt_i (by decide)
      refine DK.op' [1, 4, 5, 6, 33, 36] (t' := [(1, .ptr 0 0 none), (4, .own 1 1000000), (5, .sc (.bool (bif ((IntKind.u64.wrap ((BitVec.ofInt 64 (c.Value.getD (i) 0) &&& ~~~ (BitVec.ofInt 64 (c.Care.getD (i) 0))).toNat)) != 0) then false else ok))), (6, .sc (.int .i64 ((i : Nat) : Int))), (33, .sl 4 (List.map boolA x1) false), (36, .ptr 0 12 (some (i, 12)))]) (h' := [.box 31 (Cube.ch c), .row 5 (List.map (intA .u8) out) 1000000 true]) (LSpec.idxPtr (o := 0) (off := 12) (m := 12) (j := ((i : Nat) : Int)) hG hreq (by kernel_rfl)) (by kernel_rfl) rfl (by kernel_rfl) rfl ?_
      refine DK.seg hG 2 [1, 4, 5, 6, 33, 37, 38] (t' := [(1, .ptr 0 0 none), (4, .own 1 1000000), (5, .sc (.bool (bif ((IntKind.u64.wrap ((BitVec.ofInt 64 (c.Value.getD (i) 0) &&& ~~~ (BitVec.ofInt 64 (c.Care.getD (i) 0))).toNat)) != 0) then false else ok))), (6, .sc (.int .i64 ((i : Nat) : Int))), (33, .sl 4 (List.map boolA x1) false), (37, .sc (.int .u64 (c.Care.getD (i) 0))), (38, .sc (.int .i64 ((i : Nat) : Int)))]) (h' := [.box 31 (Cube.ch c), .row 5 (List.map (intA .u8) out) 1000000 true]) (by kernel_rfl) rfl ?_
      refine DK.op' [1, 4, 5, 6, 33, 37, 39] (t' := [(1, .ptr 0 0 none), (4, .own 1 1000000), (5, .sc (.bool (bif ((IntKind.u64.wrap ((BitVec.ofInt 64 (c.Value.getD (i) 0) &&& ~~~ (BitVec.ofInt 64 (c.Care.getD (i) 0))).toNat)) != 0) then false else ok))), (6, .sc (.int .i64 ((i : Nat) : Int))), (33, .sl 4 (List.map boolA x1) false), (37, .sc (.int .u64 (c.Care.getD (i) 0))), (39, .sc (.int .i64 (sizeT ((i : Nat) : Int))))]) (h' := [.box 31 (Cube.ch c), .row 5 (List.map (intA .u8) out) 1000000 true]) (LSpec.callP' (podestaref01_Size_ok ((i : Nat) : Int)) (by kernel_rfl)) (by kernel_rfl) rfl (by kernel_rfl) rfl ?_
      obtain ⟨x2, hv, H⟩ := Option.bind_eq_some_iff.1 H
      refine DK.op' [1, 4, 5, 6, 33, 40] (t' := [(1, .ptr 0 0 none), (4, .own 1 1000000), (5, .sc (.bool (bif ((IntKind.u64.wrap ((BitVec.ofInt 64 (c.Value.getD (i) 0) &&& ~~~ (BitVec.ofInt 64 (c.Care.getD (i) 0))).toNat)) != 0) then false else ok))), (6, .sc (.int .i64 ((i : Nat) : Int))), (33, .sl 4 (List.map boolA x1) false), (40, .sl 4 (List.map boolA x2) false)]) (h' := [.box 31 (Cube.ch c), .row 5 (List.map (intA .u8) out) 1000000 true]) (LSpec.callP' (podestaref01_Bits_ok (c.Care.getD (i) 0) (sizeT ((i : Nat) : Int)) x2 hv) (by kernel_rfl)) (by kernel_rfl) rfl (by kernel_rfl) rfl ?_
      refine DK.seg hG 2 [1, 4, 5, 6, 7, 8] (t' := [(1, .ptr 0 0 none), (4, .own 1 1000000), (5, .sc (.bool (bif ((IntKind.u64.wrap ((BitVec.ofInt 64 (c.Value.getD (i) 0) &&& ~~~ (BitVec.ofInt 64 (c.Care.getD (i) 0))).toNat)) != 0) then false else ok))), (6, .sc (.int .i64 ((i : Nat) : Int))), (7, .sl 4 (List.map boolA x1) false), (8, .sl 4 (List.map boolA x2) false)]) (h' := [.box 31 (Cube.ch c), .row 5 (List.map (intA .u8) out) 1000000 true]) (by kernel_rfl) rfl ?_
      refine DK.done (by kernel_rfl) (by kernel_rfl) ?_
      refine AR.seg hG hm 3 [1, 4, 5, 6, 7, 8, 9] (k' := [.code [1, 1, 1, 0, 1, 0, 0, 1, 0, 0, 1, 1, 1, 0], .blk 2, .blk 1, .code [1, 1, 1, 0, 1, 0, 0, 1, 1], .loop [1, 1, 1, 0, 1, 0], .blk 0, .code [1, 1, 1, 1]]) (t' := [(1, .ptr 0 0 none), (4, .own 1 1000000), (5, .sc (.bool (bif ((IntKind.u64.wrap ((BitVec.ofInt 64 (c.Value.getD (i) 0) &&& ~~~ (BitVec.ofInt 64 (c.Care.getD (i) 0))).toNat)) != 0) then false else ok))), (6, .sc (.int .i64 ((i : Nat) : Int))), (7, .sl 4 (List.map boolA x1) false), (8, .sl 4 (List.map boolA x2) false), (9, .sc (.int .i64 0))]) (h' := [.box 31 (Cube.ch c), .row 5 (List.map (intA .u8) out) 1000000 true]) (by kernel_rfl) ?_
      obtain ⟨v, hv, H⟩ := Option.bind_eq_some_iff.1 H
      refine AR.into (by kernel_rfl) ?_
      refine podestaref01_Text_l1_walk c i ok out hlt_i x1 x2 (bif ((IntKind.u64.wrap ((BitVec.ofInt 64 (c.Value.getD (i) 0) &&& ~~~ (BitVec.ofInt 64 (c.Care.getD (i) 0))).toNat)) != 0) then false else ok) r c0 hc0 v ?_ x1 0 rfl out hv
      refine AR.seg hG hm 2 [1, 4, 5, 6] (k' := [.loop [1, 1, 1, 0, 1, 0], .blk 0, .code [1, 1, 1, 1]]) (t' := [(1, .ptr 0 0 none), (4, .own 1 1000000), (5, .sc (.bool v.1)), (6, .sc (.int .i64 (IntKind.i64.wrap (((i : Nat) : Int) + 1))))]) (h' := [.box 31 (Cube.ch c), .row 5 (List.map (intA .u8) v.2) 1000000 true]) (by kernel_rfl) ?_
      refine AR.keep [1, 4, 5, 6] (t' := [(1, .ptr 0 0 none), (4, .own 1 1000000), (5, .sc (.bool v.1)), (6, .sc (.int .i64 (IntKind.i64.wrap (((i : Nat) : Int) + 1))))]) (by kernel_rfl) ?_
      refine AR.loop_round ?_
      rw [hw]
      exact ih (i + 1) (by omega) v.1 v.2 H
    case hf60 => exact absurd (hc.symm.trans hb) (by decide)

def podestaref01_Text_raw (c : Cube) : Option (ByteArray × Bool) :=
  (podestaref01_Text_l0s c 12 0 (podestaref01_Head c.Care) ([] : List Int)).bind fun v =>
  some ((strOfNums v.2), v.1)
theorem podestaref01_Text_walk (c : Cube) (r : ByteArray × Bool) (H : podestaref01_Text_raw c = some r) :
    ACalls Try.prog tab.S 32 [Cube.av c] [] (.tup [.sc (.string r.1), .sc (.bool r.2)]) [] := by
  have hG := tab_ok
  have hm := mixed
  refine ACalls.of_AR (G := tab) podestaref01_Text_F (fn := Try.f32) Try.func32 (by kernel_rfl) (by kernel_rfl) (by kernel_rfl) (Nat.le_of_ble_eq_true (by kernel_rfl)) ?_
  intro c0 hc0
  replace hc0 : c0.m.length = 0 := hc0
  rw [podestaref01_Text_raw] at H
  refine AR.seg hG hm 5 [1, 4] (k' := [.code [1, 1, 0], .code [1, 1, 1]]) (t' := [(1, .ptr 0 0 none), (4, .sl 0 [] true)]) (h' := [.box 31 (Cube.ch c)]) (by kernel_rfl) ?_
  refine AR.reg hm podestaref01_Text_k0 (by kernel_rfl) ?_
  refine DK.seg hG 2 [1, 4, 11] (t' := [(1, .ptr 0 0 none), (4, .sl 0 [] true), (11, .arr .u64 12 c.Care)]) (h' := [.box 31 (Cube.ch c)]) (by kernel_rfl) rfl ?_
  refine DK.op' [1, 4, 12] (t' := [(1, .ptr 0 0 none), (4, .sl 0 [] true), (12, .sc (.bool (podestaref01_Head c.Care)))]) (h' := [.box 31 (Cube.ch c)]) (LSpec.callP' (podestaref01_Head_calls c.Care) (by kernel_rfl)) (by kernel_rfl) rfl (by kernel_rfl) rfl ?_
  refine DK.seg hG 1 [1, 4, 5] (t' := [(1, .ptr 0 0 none), (4, .sl 0 [] true), (5, .sc (.bool (podestaref01_Head c.Care)))]) (h' := [.box 31 (Cube.ch c)]) (by kernel_rfl) rfl ?_
  refine DK.done (by kernel_rfl) (by kernel_rfl) ?_
  refine AR.seg hG hm 4 [1, 4, 5, 6] (k' := [.code [1, 1, 1, 0, 1, 0], .blk 0, .code [1, 1, 1, 1]]) (t' := [(1, .ptr 0 0 none), (4, .sl 0 [] true), (5, .sc (.bool (podestaref01_Head c.Care))), (6, .sc (.int .i64 0))]) (h' := [.box 31 (Cube.ch c)]) (by kernel_rfl) ?_
  refine AR.adoptB' 4 5 (t' := [(4, .own 1 1000000), (1, .ptr 0 0 none), (5, .sc (.bool (podestaref01_Head c.Care))), (6, .sc (.int .i64 0))]) (h' := [.box 31 (Cube.ch c), .row 5 (List.map (intA .u8) ([] : List Int)) 1000000 true]) (by kernel_rfl) ?_
  refine AR.keep [1, 4, 5, 6] (t' := [(1, .ptr 0 0 none), (4, .own 1 1000000), (5, .sc (.bool (podestaref01_Head c.Care))), (6, .sc (.int .i64 0))]) (by kernel_rfl) ?_
  obtain ⟨v, hv, H⟩ := Option.bind_eq_some_iff.1 H
  refine AR.into (by kernel_rfl) ?_
  refine podestaref01_Text_l0_walk c r c0 hc0 v ?_ 12 0 rfl (podestaref01_Head c.Care) ([] : List Int) hv
  refine AR.seg hG hm 1 [4, 5] (k' := [.code [1, 1, 1, 1, 0], .code [1, 1, 1, 1, 1]]) (t' := [(4, .own 1 1000000), (5, .sc (.bool v.1))]) (h' := [.box 31 (Cube.ch c), .row 5 (List.map (intA .u8) v.2) 1000000 true]) (by kernel_rfl) ?_
  refine AR.reg hm podestaref01_Text_k8 (by kernel_rfl) ?_
  refine DK.seg hG 1 [5, 67] (t' := [(5, .sc (.bool v.1)), (67, .own 1 1000000)]) (h' := [.box 31 (Cube.ch c), .row 5 (List.map (intA .u8) v.2) 1000000 true]) (by kernel_rfl) rfl ?_
  refine DK.op' [5, 68] (t' := [(5, .sc (.bool v.1)), (68, .sc (.string (strOfNums v.2)))]) (h' := [.box 31 (Cube.ch c), .row 5 (List.map (intA .u8) v.2) 1000000 true]) (LSpec.bytesStr hG v.2 (by kernel_rfl)) (by kernel_rfl) rfl (by kernel_rfl) rfl ?_
  refine DK.seg hG 3 [2, 3] (t' := [(2, .sc (.string (strOfNums v.2))), (3, .sc (.bool v.1))]) (h' := [.box 31 (Cube.ch c), .row 5 (List.map (intA .u8) v.2) 1000000 true]) (by kernel_rfl) rfl ?_
  refine DK.done (by kernel_rfl) (by kernel_rfl) ?_
  obtain rfl := Option.some.inj H
  exact AR.ret0 (fn := Try.f32) hG Try.func32 (by kernel_rfl) hc0 (r0 := .tup [.sc (.string (strOfNums v.2)), .sc (.bool v.1)]) (by kernel_rfl) (WkV.refl _)

def chrB (v c : Bool) : Int := if c then (if v then 49 else 48) else 120
theorem Text_l1s_eq (x2 : List Bool) (ok : Bool) : ∀ (vs : List Bool) (k : Nat) (out : List Int), k + vs.length = x2.length → out.length + vs.length ≤ 10000 → podestaref01_Text_l1s x2 ok vs k out = some (ok, out ++ List.zipWith chrB vs (x2.drop k))
  | [], k, out, _, _ => by rw [podestaref01_Text_l1s]; simp
  | x :: vs, k, out, h1, h2 => by
      rw [List.length_cons] at h1 h2
      have hk : k < x2.length := by omega
      have step : ∀ q : Int, podestaref01_Text_l1s x2 ok vs (k + 1) (out ++ [q]) = some (ok, out ++ q :: List.zipWith chrB vs (x2.drop (k + 1))) := fun q => by
        rw [Text_l1s_eq x2 ok vs (k + 1) (out ++ [q]) (by omega) (by rw [List.length_append, List.length_cons, List.length_nil]; omega), List.append_assoc]; rfl
      rw [podestaref01_Text_l1s, ixO_lt hk, Option.bind_some, List.drop_eq_getElem_cons hk, List.zipWith_cons_cons, fitO_eq (by rw [List.length_cons, List.length_nil]; omega), fitO_eq (by rw [List.length_cons, List.length_nil]; omega), fitO_eq (by rw [List.length_cons, List.length_nil]; omega)]
      cases x2[k]
      · exact step 120
      · cases x
        · exact step 48
        · exact step 49
def badAt (c : Cube) (i : Nat) : Bool := ((IntKind.u64.wrap ((BitVec.ofInt 64 (c.Value.getD i 0) &&& ~~~ (BitVec.ofInt 64 (c.Care.getD i 0))).toNat)) != 0)
def textOk (c : Cube) : Nat → Nat → Bool → Bool
  | 0, _, ok => ok
  | r + 1, i, ok => textOk c r (i + 1) (bif badAt c i then false else ok)
def sizeN (i : Nat) : Nat := (sizeT ((i : Nat) : Int)).toNat
def textS (c : Cube) : Nat → Nat → List Int
  | 0, _ => []
  | r + 1, i => List.zipWith chrB (bitsL (c.Value.getD i 0) (sizeN i)) (bitsL (c.Care.getD i 0) (sizeN i)) ++ textS c r (i + 1)
theorem bitsO_size (v : Int) (i : Nat) : bitsO v (sizeT ((i : Nat) : Int)) = some (bitsL v (sizeN i)) := by
  have h := sizeT_in ((i : Nat) : Int)
  unfold bitsO sizeN
  rw [if_pos (by omega)]
theorem Text_l0s_eq (c : Cube) : ∀ (r i : Nat) (ok : Bool) (out : List Int), out.length + r * 64 ≤ 10000 → podestaref01_Text_l0s c r i ok out = some (textOk c r i ok, out ++ textS c r i)
  | 0, i, ok, out, _ => by rw [podestaref01_Text_l0s, textOk, textS, List.append_nil]
  | r + 1, i, ok, out, h => by
      have hs := sizeT_in ((i : Nat) : Int)
      have hn : sizeN i ≤ 64 := by unfold sizeN; omega
      rw [podestaref01_Text_l0s, bitsO_size, bitsO_size, Option.bind_some, Option.bind_some, Text_l1s_eq _ _ _ 0 out (by rw [bitsL_len, bitsL_len, Nat.zero_add]) (by rw [bitsL_len]; omega), Option.bind_some, List.drop_zero]
      show podestaref01_Text_l0s c r (i + 1) _ (out ++ _) = _
      rw [Text_l0s_eq c r (i + 1) _ _ (by rw [List.length_append, List.length_zipWith, bitsL_len, bitsL_len]; omega), textOk, textS, List.append_assoc]
      rfl
def textT (c : Cube) : ByteArray × Bool := (strOfNums (textS c 12 0), textOk c 12 0 (podestaref01_Head c.Care))
theorem podestaref01_Text_ok (c : Cube) : ACalls Try.prog tab.S 32 [Cube.av c] [] (.tup [.sc (.string (textT c).1), .sc (.bool (textT c).2)]) [] := by
  refine podestaref01_Text_walk c _ ?_
  rw [podestaref01_Text_raw, Text_l0s_eq c 12 0 _ [] (by decide)]
  rfl

end Go.Proofs.Ytadolbhmdimbkaa

set_option linter.unusedVariables false
set_option linter.unusedSimpArgs false
set_option maxRecDepth 100000
set_option maxHeartbeats 4000000
namespace Go.Proofs.Ytadolbhmdimbkaa
open Go.Sh
/-! ### podestaref01.Cube: function 39 -/
noncomputable def podestaref01_Cube_F : Go.Sh.Fn := ⟨39, bodyOf Try.f39, 11⟩
def podestaref01_Cube_k0 : List Kd := [.read, .pure, .pure, .pure, .pure, .pure, .pure]
def podestaref01_Cube (c : Cube) : Bool :=
  (textT c).2
theorem podestaref01_Cube_walk (c : Cube) (r : Bool) (H : podestaref01_Cube c = r) :
    ACalls Try.prog tab.S 39 [Cube.av c] [] (.sc (.bool r)) [] := by
  have hG := tab_ok
  have hm := mixed
  refine ACalls.of_AR (G := tab) podestaref01_Cube_F (fn := Try.f39) Try.func39 (by kernel_rfl) (by kernel_rfl) (by kernel_rfl) (Nat.le_of_ble_eq_true (by kernel_rfl)) ?_
  intro c0 hc0
  replace hc0 : c0.m.length = 0 := hc0
  rw [podestaref01_Cube] at H
  refine AR.seg hG hm 3 [1] (k' := [.code [1, 0], .code [1, 1]]) (t' := [(1, .ptr 0 0 none)]) (h' := [.box 31 (Cube.ch c)]) (by kernel_rfl) ?_
  refine AR.reg hm podestaref01_Cube_k0 (by kernel_rfl) ?_
  refine DK.seg hG 1 [6] (t' := [(6, Cube.av c)]) (h' := [.box 31 (Cube.ch c)]) (by kernel_rfl) rfl ?_
  refine DK.op' [7] (t' := [(7, .tup [.sc (.string ((textT c).1)), .sc (.bool ((textT c).2))])]) (h' := [.box 31 (Cube.ch c)]) (LSpec.callP' (podestaref01_Text_ok c) (by kernel_rfl)) (by kernel_rfl) rfl (by kernel_rfl) rfl ?_
  refine DK.seg hG 5 [4] (t' := [(4, .sc (.bool ((textT c).2)))]) (h' := [.box 31 (Cube.ch c)]) (by kernel_rfl) rfl ?_
  refine DK.done (by kernel_rfl) (by kernel_rfl) ?_
  refine AR.seg hG hm 2 [2] (k' := [.code [1, 1, 1]]) (t' := [(2, .sc (.bool ((textT c).2)))]) (h' := [.box 31 (Cube.ch c)]) (by kernel_rfl) ?_
  subst H
  exact AR.ret0 (fn := Try.f39) hG Try.func39 (by kernel_rfl) hc0 (r0 := .sc (.bool ((textT c).2))) (by kernel_rfl) (WkV.refl _)
theorem podestaref01_Cube_calls (c : Cube) : ACalls Try.prog tab.S 39 [Cube.av c] [] (.sc (.bool (podestaref01_Cube c))) [] := podestaref01_Cube_walk c _ rfl

/-! ### podestaref04.span: function 41 -/
noncomputable def podestaref04_span_F : Go.Sh.Fn := ⟨41, bodyOf Try.f41, 12⟩
def podestaref04_span_k0 : List Kd := [.pure, .pure, .pure, .pure, .pure, .pure, .pure, .pure]
def podestaref04_span (n : Int) (most : Int) : Bool :=
  ((decide (n ≥ 0)) && (decide (n ≤ most)))
theorem podestaref04_span_walk (n : Int) (most : Int) (r : Bool) (H : podestaref04_span n most = r) :
    ACalls Try.prog tab.S 41 [.sc (.int .i64 n), .sc (.int .i64 most)] [] (.sc (.bool r)) [] := by
  have hG := tab_ok
  have hm := mixed
  refine ACalls.of_AR (G := tab) podestaref04_span_F (fn := Try.f41) Try.func41 (by kernel_rfl) (by kernel_rfl) (by kernel_rfl) (Nat.le_of_ble_eq_true (by kernel_rfl)) ?_
  intro c0 hc0
  replace hc0 : c0.m.length = 0 := hc0
  rw [podestaref04_span] at H
  refine AR.seg hG hm 3 [0, 1] (k' := [.code [1, 0], .code [1, 1]]) (t' := [(0, .sc (.int .i64 n)), (1, .sc (.int .i64 most))]) (h' := []) (by kernel_rfl) ?_
  refine AR.reg hm podestaref04_span_k0 (by kernel_rfl) ?_
  refine DK.seg hG 3 [0, 1, 7] (t' := [(0, .sc (.int .i64 n)), (1, .sc (.int .i64 most)), (7, .sc (.bool (decide (n ≥ 0))))]) (h' := []) (by kernel_rfl) rfl ?_
  refine DK.mux 7 (decide (n ≥ 0)) (j := 7) (h' := []) (by kernel_rfl) (fun z => [(11, .sc (.bool (z && (decide (n ≤ most)))))]) ?J1 (fun hb J => ?ht1) (fun hb J => ?hf1)
  case ht1 =>
    exact DK.seg hG 4 [11] (by kernel_rfl) rfl J
  case hf1 =>
    exact DK.seg hG 4 [11] (by kernel_rfl) rfl J
  refine DK.seg hG 1 [4] (t' := [(4, .sc (.bool ((decide (n ≥ 0)) && (decide (n ≤ most)))))]) (h' := []) (by kernel_rfl) rfl ?_
  refine DK.done (by kernel_rfl) (by kernel_rfl) ?_
  subst H
  exact AR.ret0 (fn := Try.f41) hG Try.func41 (by kernel_rfl) hc0 (r0 := .sc (.bool ((decide (n ≥ 0)) && (decide (n ≤ most))))) (by kernel_rfl) (WkV.refl _)
theorem podestaref04_span_calls (n : Int) (most : Int) : ACalls Try.prog tab.S 41 [.sc (.int .i64 n), .sc (.int .i64 most)] [] (.sc (.bool (podestaref04_span n most))) [] := podestaref04_span_walk n most _ rfl

/-! ### podestaref04.Rule: function 17 -/
noncomputable def podestaref04_Rule_F : Go.Sh.Fn := ⟨17, bodyOf Try.f17, 46⟩
def podestaref04_Rule_k0 : List Kd := [.pure, .read, .pure, .pure, .pure, .read, .pure, .pure, .pure, .pure, .read, .pure, .pure, .pure, .pure, .read, .pure, .pure, .pure, .pure, .read, .pure, .pure, .pure, .pure, .read, .pure, .pure, .pure, .pure, .read, .pure, .pure, .pure, .pure, .read, .pure, .pure, .pure, .pure, .read, .pure, .pure, .pure]
def podestaref04_Rule (r2 : Rule) : Bool :=
  (((((((((podestaref01_Cube r2.Match) && (podestaref04_Acts r2.Acts)) && (podestaref04_span r2.Prio 65535)) && (podestaref04_span r2.Idle 1048576)) && (podestaref04_span r2.Hard 1048576)) && (podestaref04_span r2.Owner 255)) && (decide (r2.Hits ≥ 0))) && (decide (r2.Quiet ≥ 0))) && (decide (r2.Age ≥ 0)))
theorem podestaref04_Rule_walk (r2 : Rule) (r : Bool) (H : podestaref04_Rule r2 = r) :
    ACalls Try.prog tab.S 17 [Rule.av r2] [] (.sc (.bool r)) [] := by
  have hG := tab_ok
  have hm := mixed
  refine ACalls.of_AR (G := tab) podestaref04_Rule_F (fn := Try.f17) Try.func17 (by kernel_rfl) (by kernel_rfl) (by kernel_rfl) (Nat.le_of_ble_eq_true (by kernel_rfl)) ?_
  intro c0 hc0
  replace hc0 : c0.m.length = 0 := hc0
  rw [podestaref04_Rule] at H
  refine AR.seg hG hm 3 [1] (k' := [.code [1, 0], .code [1, 1]]) (t' := [(1, .ptr 0 0 none)]) (h' := [.box 34 (Rule.ch r2)]) (by kernel_rfl) ?_
  refine AR.reg hm podestaref04_Rule_k0 (by kernel_rfl) ?_
  refine DK.seg hG 2 [1, 4] (t' := [(1, .ptr 0 0 none), (4, Cube.av r2.Match)]) (h' := [.box 34 (Rule.ch r2)]) (by kernel_rfl) rfl ?_
  refine DK.op' [1, 5] (t' := [(1, .ptr 0 0 none), (5, .sc (.bool (podestaref01_Cube r2.Match)))]) (h' := [.box 34 (Rule.ch r2)]) (LSpec.callP' (podestaref01_Cube_calls r2.Match) (by kernel_rfl)) (by kernel_rfl) rfl (by kernel_rfl) rfl ?_
  refine DK.seg hG 1 [1, 6] (t' := [(1, .ptr 0 0 none), (6, .sc (.bool (podestaref01_Cube r2.Match)))]) (h' := [.box 34 (Rule.ch r2)]) (by kernel_rfl) rfl ?_
  refine DK.mux 6 (podestaref01_Cube r2.Match) (j := 8) (h' := [.box 34 (Rule.ch r2)]) (by kernel_rfl) (fun z => [(1, .ptr 0 0 none), (10, .sc (.bool (z && (podestaref04_Acts r2.Acts))))]) ?J1 (fun hb J => ?ht1) (fun hb J => ?hf1)
  case ht1 =>
    refine DK.seg hG 2 [1, 6, 8] (t' := [(1, .ptr 0 0 none), (6, .sc (.bool true)), (8, .sl 42 (List.map Act.av r2.Acts) false)]) (h' := [.box 34 (Rule.ch r2)]) (by kernel_rfl) rfl ?_
    refine DK.op' [1, 6, 9] (t' := [(1, .ptr 0 0 none), (6, .sc (.bool true)), (9, .sc (.bool (podestaref04_Acts r2.Acts)))]) (h' := [.box 34 (Rule.ch r2)]) (LSpec.callP' (podestaref04_Acts_calls r2.Acts false) (by kernel_rfl)) (by kernel_rfl) rfl (by kernel_rfl) rfl ?_
    exact DK.seg hG 1 [1, 10] (by kernel_rfl) rfl J
  case hf1 =>
    exact DK.seg hG 4 [1, 10] (by kernel_rfl) rfl J
  refine DK.seg hG 1 [1, 11] (t' := [(1, .ptr 0 0 none), (11, .sc (.bool ((podestaref01_Cube r2.Match) && (podestaref04_Acts r2.Acts))))]) (h' := [.box 34 (Rule.ch r2)]) (by kernel_rfl) rfl ?_
  refine DK.mux 11 ((podestaref01_Cube r2.Match) && (podestaref04_Acts r2.Acts)) (j := 13) (h' := [.box 34 (Rule.ch r2)]) (by kernel_rfl) (fun z => [(1, .ptr 0 0 none), (15, .sc (.bool (z && (podestaref04_span r2.Prio 65535))))]) ?J2 (fun hb J => ?ht2) (fun hb J => ?hf2)
  case ht2 =>
    refine DK.seg hG 2 [1, 11, 13] (t' := [(1, .ptr 0 0 none), (11, .sc (.bool true)), (13, .sc (.int .i64 r2.Prio))]) (h' := [.box 34 (Rule.ch r2)]) (by kernel_rfl) rfl ?_
    refine DK.op' [1, 11, 14] (t' := [(1, .ptr 0 0 none), (11, .sc (.bool true)), (14, .sc (.bool (podestaref04_span r2.Prio 65535)))]) (h' := [.box 34 (Rule.ch r2)]) (LSpec.callP' (podestaref04_span_calls r2.Prio 65535) (by kernel_rfl)) (by kernel_rfl) rfl (by kernel_rfl) rfl ?_
    exact DK.seg hG 1 [1, 15] (by kernel_rfl) rfl J
  case hf2 =>
    exact DK.seg hG 4 [1, 15] (by kernel_rfl) rfl J
  refine DK.seg hG 1 [1, 16] (t' := [(1, .ptr 0 0 none), (16, .sc (.bool (((podestaref01_Cube r2.Match) && (podestaref04_Acts r2.Acts)) && (podestaref04_span r2.Prio 65535))))]) (h' := [.box 34 (Rule.ch r2)]) (by kernel_rfl) rfl ?_
  refine DK.mux 16 (((podestaref01_Cube r2.Match) && (podestaref04_Acts r2.Acts)) && (podestaref04_span r2.Prio 65535)) (j := 18) (h' := [.box 34 (Rule.ch r2)]) (by kernel_rfl) (fun z => [(1, .ptr 0 0 none), (20, .sc (.bool (z && (podestaref04_span r2.Idle 1048576))))]) ?J3 (fun hb J => ?ht3) (fun hb J => ?hf3)
  case ht3 =>
    refine DK.seg hG 2 [1, 16, 18] (t' := [(1, .ptr 0 0 none), (16, .sc (.bool true)), (18, .sc (.int .i64 r2.Idle))]) (h' := [.box 34 (Rule.ch r2)]) (by kernel_rfl) rfl ?_
    refine DK.op' [1, 16, 19] (t' := [(1, .ptr 0 0 none), (16, .sc (.bool true)), (19, .sc (.bool (podestaref04_span r2.Idle 1048576)))]) (h' := [.box 34 (Rule.ch r2)]) (LSpec.callP' (podestaref04_span_calls r2.Idle 1048576) (by kernel_rfl)) (by kernel_rfl) rfl (by kernel_rfl) rfl ?_
    exact DK.seg hG 1 [1, 20] (by kernel_rfl) rfl J
  case hf3 =>
    exact DK.seg hG 4 [1, 20] (by kernel_rfl) rfl J
  refine DK.seg hG 1 [1, 21] (t' := [(1, .ptr 0 0 none), (21, .sc (.bool ((((podestaref01_Cube r2.Match) && (podestaref04_Acts r2.Acts)) && (podestaref04_span r2.Prio 65535)) && (podestaref04_span r2.Idle 1048576))))]) (h' := [.box 34 (Rule.ch r2)]) (by kernel_rfl) rfl ?_
  refine DK.mux 21 ((((podestaref01_Cube r2.Match) && (podestaref04_Acts r2.Acts)) && (podestaref04_span r2.Prio 65535)) && (podestaref04_span r2.Idle 1048576)) (j := 23) (h' := [.box 34 (Rule.ch r2)]) (by kernel_rfl) (fun z => [(1, .ptr 0 0 none), (25, .sc (.bool (z && (podestaref04_span r2.Hard 1048576))))]) ?J4 (fun hb J => ?ht4) (fun hb J => ?hf4)
  case ht4 =>
    refine DK.seg hG 2 [1, 21, 23] (t' := [(1, .ptr 0 0 none), (21, .sc (.bool true)), (23, .sc (.int .i64 r2.Hard))]) (h' := [.box 34 (Rule.ch r2)]) (by kernel_rfl) rfl ?_
    refine DK.op' [1, 21, 24] (t' := [(1, .ptr 0 0 none), (21, .sc (.bool true)), (24, .sc (.bool (podestaref04_span r2.Hard 1048576)))]) (h' := [.box 34 (Rule.ch r2)]) (LSpec.callP' (podestaref04_span_calls r2.Hard 1048576) (by kernel_rfl)) (by kernel_rfl) rfl (by kernel_rfl) rfl ?_
    exact DK.seg hG 1 [1, 25] (by kernel_rfl) rfl J
  case hf4 =>
    exact DK.seg hG 4 [1, 25] (by kernel_rfl) rfl J
  refine DK.seg hG 1 [1, 26] (t' := [(1, .ptr 0 0 none), (26, .sc (.bool (((((podestaref01_Cube r2.Match) && (podestaref04_Acts r2.Acts)) && (podestaref04_span r2.Prio 65535)) && (podestaref04_span r2.Idle 1048576)) && (podestaref04_span r2.Hard 1048576))))]) (h' := [.box 34 (Rule.ch r2)]) (by kernel_rfl) rfl ?_
  refine DK.mux 26 (((((podestaref01_Cube r2.Match) && (podestaref04_Acts r2.Acts)) && (podestaref04_span r2.Prio 65535)) && (podestaref04_span r2.Idle 1048576)) && (podestaref04_span r2.Hard 1048576)) (j := 28) (h' := [.box 34 (Rule.ch r2)]) (by kernel_rfl) (fun z => [(1, .ptr 0 0 none), (30, .sc (.bool (z && (podestaref04_span r2.Owner 255))))]) ?J5 (fun hb J => ?ht5) (fun hb J => ?hf5)
  case ht5 =>
    refine DK.seg hG 2 [1, 26, 28] (t' := [(1, .ptr 0 0 none), (26, .sc (.bool true)), (28, .sc (.int .i64 r2.Owner))]) (h' := [.box 34 (Rule.ch r2)]) (by kernel_rfl) rfl ?_
    refine DK.op' [1, 26, 29] (t' := [(1, .ptr 0 0 none), (26, .sc (.bool true)), (29, .sc (.bool (podestaref04_span r2.Owner 255)))]) (h' := [.box 34 (Rule.ch r2)]) (LSpec.callP' (podestaref04_span_calls r2.Owner 255) (by kernel_rfl)) (by kernel_rfl) rfl (by kernel_rfl) rfl ?_
    exact DK.seg hG 1 [1, 30] (by kernel_rfl) rfl J
  case hf5 =>
    exact DK.seg hG 4 [1, 30] (by kernel_rfl) rfl J
  refine DK.seg hG 1 [1, 31] (t' := [(1, .ptr 0 0 none), (31, .sc (.bool ((((((podestaref01_Cube r2.Match) && (podestaref04_Acts r2.Acts)) && (podestaref04_span r2.Prio 65535)) && (podestaref04_span r2.Idle 1048576)) && (podestaref04_span r2.Hard 1048576)) && (podestaref04_span r2.Owner 255))))]) (h' := [.box 34 (Rule.ch r2)]) (by kernel_rfl) rfl ?_
  refine DK.mux 31 ((((((podestaref01_Cube r2.Match) && (podestaref04_Acts r2.Acts)) && (podestaref04_span r2.Prio 65535)) && (podestaref04_span r2.Idle 1048576)) && (podestaref04_span r2.Hard 1048576)) && (podestaref04_span r2.Owner 255)) (j := 33) (h' := [.box 34 (Rule.ch r2)]) (by kernel_rfl) (fun z => [(1, .ptr 0 0 none), (35, .sc (.bool (z && (decide (r2.Hits ≥ 0)))))]) ?J6 (fun hb J => ?ht6) (fun hb J => ?hf6)
  case ht6 =>
    exact DK.seg hG 4 [1, 35] (by kernel_rfl) rfl J
  case hf6 =>
    exact DK.seg hG 4 [1, 35] (by kernel_rfl) rfl J
  refine DK.seg hG 1 [1, 36] (t' := [(1, .ptr 0 0 none), (36, .sc (.bool (((((((podestaref01_Cube r2.Match) && (podestaref04_Acts r2.Acts)) && (podestaref04_span r2.Prio 65535)) && (podestaref04_span r2.Idle 1048576)) && (podestaref04_span r2.Hard 1048576)) && (podestaref04_span r2.Owner 255)) && (decide (r2.Hits ≥ 0)))))]) (h' := [.box 34 (Rule.ch r2)]) (by kernel_rfl) rfl ?_
  refine DK.mux 36 (((((((podestaref01_Cube r2.Match) && (podestaref04_Acts r2.Acts)) && (podestaref04_span r2.Prio 65535)) && (podestaref04_span r2.Idle 1048576)) && (podestaref04_span r2.Hard 1048576)) && (podestaref04_span r2.Owner 255)) && (decide (r2.Hits ≥ 0))) (j := 38) (h' := [.box 34 (Rule.ch r2)]) (by kernel_rfl) (fun z => [(1, .ptr 0 0 none), (40, .sc (.bool (z && (decide (r2.Quiet ≥ 0)))))]) ?J7 (fun hb J => ?ht7) (fun hb J => ?hf7)
  case ht7 =>
    exact DK.seg hG 4 [1, 40] (by kernel_rfl) rfl J
  case hf7 =>
    exact DK.seg hG 4 [1, 40] (by kernel_rfl) rfl J
  refine DK.seg hG 1 [1, 41] (t' := [(1, .ptr 0 0 none), (41, .sc (.bool ((((((((podestaref01_Cube r2.Match) && (podestaref04_Acts r2.Acts)) && (podestaref04_span r2.Prio 65535)) && (podestaref04_span r2.Idle 1048576)) && (podestaref04_span r2.Hard 1048576)) && (podestaref04_span r2.Owner 255)) && (decide (r2.Hits ≥ 0))) && (decide (r2.Quiet ≥ 0)))))]) (h' := [.box 34 (Rule.ch r2)]) (by kernel_rfl) rfl ?_
  refine DK.mux 41 ((((((((podestaref01_Cube r2.Match) && (podestaref04_Acts r2.Acts)) && (podestaref04_span r2.Prio 65535)) && (podestaref04_span r2.Idle 1048576)) && (podestaref04_span r2.Hard 1048576)) && (podestaref04_span r2.Owner 255)) && (decide (r2.Hits ≥ 0))) && (decide (r2.Quiet ≥ 0))) (j := 43) (h' := [.box 34 (Rule.ch r2)]) (by kernel_rfl) (fun z => [(45, .sc (.bool (z && (decide (r2.Age ≥ 0)))))]) ?J8 (fun hb J => ?ht8) (fun hb J => ?hf8)
  case ht8 =>
    exact DK.seg hG 4 [45] (by kernel_rfl) rfl J
  case hf8 =>
    exact DK.seg hG 4 [45] (by kernel_rfl) rfl J
  refine DK.seg hG 1 [2] (t' := [(2, .sc (.bool (((((((((podestaref01_Cube r2.Match) && (podestaref04_Acts r2.Acts)) && (podestaref04_span r2.Prio 65535)) && (podestaref04_span r2.Idle 1048576)) && (podestaref04_span r2.Hard 1048576)) && (podestaref04_span r2.Owner 255)) && (decide (r2.Hits ≥ 0))) && (decide (r2.Quiet ≥ 0))) && (decide (r2.Age ≥ 0)))))]) (h' := [.box 34 (Rule.ch r2)]) (by kernel_rfl) rfl ?_
  refine DK.done (by kernel_rfl) (by kernel_rfl) ?_
  subst H
  exact AR.ret0 (fn := Try.f17) hG Try.func17 (by kernel_rfl) hc0 (r0 := .sc (.bool (((((((((podestaref01_Cube r2.Match) && (podestaref04_Acts r2.Acts)) && (podestaref04_span r2.Prio 65535)) && (podestaref04_span r2.Idle 1048576)) && (podestaref04_span r2.Hard 1048576)) && (podestaref04_span r2.Owner 255)) && (decide (r2.Hits ≥ 0))) && (decide (r2.Quiet ≥ 0))) && (decide (r2.Age ≥ 0))))) (by kernel_rfl) (WkV.refl _)
theorem podestaref04_Rule_calls (r2 : Rule) : ACalls Try.prog tab.S 17 [Rule.av r2] [] (.sc (.bool (podestaref04_Rule r2))) [] := podestaref04_Rule_walk r2 _ rfl

/-! ### podestaref01.Order: function 60 -/
noncomputable def podestaref01_Order_F : Go.Sh.Fn := ⟨60, bodyOf Try.f60, 24⟩
def podestaref01_Order_k1 : List Kd := [.pure, .pure, .read, .pure, .pure, .read, .pure]
def podestaref01_Order_k0 : List Kd := [.pure, .pure, .read, .pure, .pure, .read, .pure]
def podestaref01_Order_l0s (a : List Int) (b : List Int) : Nat → Nat → Sum (Unit) (Int)
  | 0, i =>
    (.inl ())
  | rest + 1, i =>
    (bif (decide ((a.getD (i) 0) < (b.getD (i) 0))) then
      (.inr (-1))
    else
      (bif (decide ((a.getD (i) 0) > (b.getD (i) 0))) then
        (.inr 1)
      else
        podestaref01_Order_l0s a b rest (i + 1) ))
theorem podestaref01_Order_l0_walk (a : List Int) (b : List Int) (r : Int) (c0 : Ctx) (hc0 : c0.m.length = 0) (res : Sum (Unit) (Int)) (J : ∀ w : Unit, res = .inl w → AR Try.prog tab podestaref01_Order_F c0 (Rp tab.S c0 (.sc (.int .i64 r)) []) [.code [1, 1]] [] [.box 25 [.arr .u64 12 a], .box 25 [.arr .u64 12 b]]) (Jr : ∀ w, res = .inr w → w = r) :
    ∀ (rest : Nat) (i : Nat) (hd : i + rest = 12) (H : podestaref01_Order_l0s a b rest i = res), AR Try.prog tab podestaref01_Order_F c0 (Rp tab.S c0 (.sc (.int .i64 r)) []) [.code [1, 0, 1, 0, 0], .loop [1, 0, 1, 0], .blk 0, .code [1, 1]] [(2, .ptr 0 0 none), (3, .ptr 1 0 none), (5, .sc (.int .i64 ((i : Nat) : Int)))] [.box 25 [.arr .u64 12 a], .box 25 [.arr .u64 12 b]] := by
  have hG := tab_ok
  have hm := mixed
  intro rest
  induction rest with
  | zero =>
    intro i hd  H
    rw [podestaref01_Order_l0s] at H
    have hc : (decide (((i : Nat) : Int) < 12)) = false := decide_eq_false (by omega)
    refine AR.seg hG hm 3 [2, 3, 5, 7] (k' := [.code [1, 0, 1, 0, 0, 0, 1], .code [1, 0, 1, 0, 0, 1], .loop [1, 0, 1, 0], .blk 0, .code [1, 1]]) (t' := [(2, .ptr 0 0 none), (3, .ptr 1 0 none), (5, .sc (.int .i64 ((i : Nat) : Int))), (7, .sc (.bool (decide (((i : Nat) : Int) < 12))))]) (h' := [.box 25 [.arr .u64 12 a], .box 25 [.arr .u64 12 b]]) (by kernel_rfl) ?_
    refine AR.cond (.tmp 7) (decide (((i : Nat) : Int) < 12)) (by kernel_rfl) (by kernel_rfl) (fun hb => ?ht10) (fun hb => ?hf10)
    case ht10 => exact absurd (hb.symm.trans hc) (by decide)
    case hf10 =>
      refine AR.seg hG hm 1 [] (k' := [.code [1, 1]]) (t' := []) (h' := [.box 25 [.arr .u64 12 a], .box 25 [.arr .u64 12 b]]) (by kernel_rfl) ?_
      refine AR.keep [] (t' := []) (by kernel_rfl) ?_
      exact J () H.symm
  | succ rest ih =>
    intro i hd  H
    rw [podestaref01_Order_l0s] at H
    have hlt_i : i < 12 := by omega
    have hc : (decide (((i : Nat) : Int) < 12)) = true := decide_eq_true (by omega)
    have hw : IntKind.i64.wrap (((i : Nat) : Int) + 1) = ((i + 1 : Nat) : Int) := wrapI_succ (by omega)
    refine AR.seg hG hm 3 [2, 3, 5, 7] (k' := [.code [1, 0, 1, 0, 0, 0, 1], .code [1, 0, 1, 0, 0, 1], .loop [1, 0, 1, 0], .blk 0, .code [1, 1]]) (t' := [(2, .ptr 0 0 none), (3, .ptr 1 0 none), (5, .sc (.int .i64 ((i : Nat) : Int))), (7, .sc (.bool (decide (((i : Nat) : Int) < 12))))]) (h' := [.box 25 [.arr .u64 12 a], .box 25 [.arr .u64 12 b]]) (by kernel_rfl) ?_
    refine AR.cond (.tmp 7) (decide (((i : Nat) : Int) < 12)) (by kernel_rfl) (by kernel_rfl) (fun hb => ?ht11) (fun hb => ?hf11)
    case ht11 =>
      refine AR.seg hG hm 5 [2, 3, 5] (k' := [.code [1, 0, 1, 0, 0, 1, 0, 0, 0, 0], .code [1, 0, 1, 0, 0, 1, 0, 0, 0, 1], .code [1, 0, 1, 0, 0, 1, 0, 0, 1], .blk 1, .code [1, 0, 1, 0, 0, 1, 1], .loop [1, 0, 1, 0], .blk 0, .code [1, 1]]) (t' := [(2, .ptr 0 0 none), (3, .ptr 1 0 none), (5, .sc (.int .i64 ((i : Nat) : Int)))]) (h' := [.box 25 [.arr .u64 12 a], .box 25 [.arr .u64 12 b]]) (by kernel_rfl) ?_
      refine AR.reg hm podestaref01_Order_k0 (by kernel_rfl) ?_
      refine DK.seg hG 1 [2, 3, 5, 10] (t' := [(2, .ptr 0 0 none), (3, .ptr 1 0 none), (5, .sc (.int .i64 ((i : Nat) : Int))), (10, .sc (.int .i64 ((i : Nat) : Int)))]) (h' := [.box 25 [.arr .u64 12 a], .box 25 [.arr .u64 12 b]]) (by kernel_rfl) rfl ?_
      have hreq := idx_in 12 hlt_i (by decide)
      refine DK.op' [2, 3, 5, 11] (t' := [(2, .ptr 0 0 none), (3, .ptr 1 0 none), (5, .sc (.int .i64 ((i : Nat) : Int))), (11, .ptr 0 0 (some (i, 12)))]) (h' := [.box 25 [.arr .u64 12 a], .box 25 [.arr .u64 12 b]]) (LSpec.idxPtr (o := 0) (off := 0) (m := 12) (j := ((i : Nat) : Int)) hG hreq (by kernel_rfl)) (by kernel_rfl) rfl (by kernel_rfl) rfl ?_
      refine DK.seg hG 2 [2, 3, 5, 12, 13] (t' := [(2, .ptr 0 0 none), (3, .ptr 1 0 none), (5, .sc (.int .i64 ((i : Nat) : Int))), (12, .sc (.int .u64 (a.getD (i) 0))), (13, .sc (.int .i64 ((i : Nat) : Int)))]) (h' := [.box 25 [.arr .u64 12 a], .box 25 [.arr .u64 12 b]]) (by kernel_rfl) rfl ?_
      have hreq := idx_in 12 hlt_i (by decide)
      refine DK.op' [2, 3, 5, 12, 14] (t' := [(2, .ptr 0 0 none), (3, .ptr 1 0 none), (5, .sc (.int .i64 ((i : Nat) : Int))), (12, .sc (.int .u64 (a.getD (i) 0))), (14, .ptr 1 0 (some (i, 12)))]) (h' := [.box 25 [.arr .u64 12 a], .box 25 [.arr .u64 12 b]]) (LSpec.idxPtr (o := 1) (off := 0) (m := 12) (j := ((i : Nat) : Int)) hG hreq (by kernel_rfl)) (by kernel_rfl) rfl (by kernel_rfl) rfl ?_
      refine DK.seg hG 2 [2, 3, 5, 16] (t' := [(2, .ptr 0 0 none), (3, .ptr 1 0 none), (5, .sc (.int .i64 ((i : Nat) : Int))), (16, .sc (.bool (decide ((a.getD (i) 0) < (b.getD (i) 0)))))]) (h' := [.box 25 [.arr .u64 12 a], .box 25 [.arr .u64 12 b]]) (by kernel_rfl) rfl ?_
      refine DK.done (by kernel_rfl) (by kernel_rfl) ?_
      refine AR.cond (.tmp 16) (decide ((a.getD (i) 0) < (b.getD (i) 0))) (by kernel_rfl) (by kernel_rfl) (fun hb => ?ht12) (fun hb => ?hf12)
      case ht12 =>
        replace H := cond_t hb H
        refine AR.seg hG hm 2 [4] (k' := [.code [1, 0, 1, 0, 0, 1, 0, 0, 0, 1, 0, 1], .code [1, 0, 1, 0, 0, 1, 0, 0, 1], .blk 1, .code [1, 0, 1, 0, 0, 1, 1], .loop [1, 0, 1, 0], .blk 0, .code [1, 1]]) (t' := [(4, .sc (.int .i64 (-1)))]) (h' := [.box 25 [.arr .u64 12 a], .box 25 [.arr .u64 12 b]]) (by kernel_rfl) ?_
        subst H
        obtain rfl := Jr _ rfl
        exact AR.ret0 (fn := Try.f60) hG Try.func60 (by kernel_rfl) hc0 (r0 := .sc (.int .i64 (-1))) (by kernel_rfl) (WkV.refl _)
      case hf12 =>
        replace H := cond_f hb H
        refine AR.seg hG hm 2 [2, 3, 5] (k' := [.code [1, 0, 1, 0, 0, 1, 0, 0, 1, 0], .code [1, 0, 1, 0, 0, 1, 0, 0, 1, 1], .blk 1, .code [1, 0, 1, 0, 0, 1, 1], .loop [1, 0, 1, 0], .blk 0, .code [1, 1]]) (t' := [(2, .ptr 0 0 none), (3, .ptr 1 0 none), (5, .sc (.int .i64 ((i : Nat) : Int)))]) (h' := [.box 25 [.arr .u64 12 a], .box 25 [.arr .u64 12 b]]) (by kernel_rfl) ?_
        refine AR.reg hm podestaref01_Order_k1 (by kernel_rfl) ?_
        refine DK.seg hG 1 [2, 3, 5, 17] (t' := [(2, .ptr 0 0 none), (3, .ptr 1 0 none), (5, .sc (.int .i64 ((i : Nat) : Int))), (17, .sc (.int .i64 ((i : Nat) : Int)))]) (h' := [.box 25 [.arr .u64 12 a], .box 25 [.arr .u64 12 b]]) (by kernel_rfl) rfl ?_
        have hreq := idx_in 12 hlt_i (by decide)
        refine DK.op' [2, 3, 5, 18] (t' := [(2, .ptr 0 0 none), (3, .ptr 1 0 none), (5, .sc (.int .i64 ((i : Nat) : Int))), (18, .ptr 0 0 (some (i, 12)))]) (h' := [.box 25 [.arr .u64 12 a], .box 25 [.arr .u64 12 b]]) (LSpec.idxPtr (o := 0) (off := 0) (m := 12) (j := ((i : Nat) : Int)) hG hreq (by kernel_rfl)) (by kernel_rfl) rfl (by kernel_rfl) rfl ?_
        refine DK.seg hG 2 [2, 3, 5, 19, 20] (t' := [(2, .ptr 0 0 none), (3, .ptr 1 0 none), (5, .sc (.int .i64 ((i : Nat) : Int))), (19, .sc (.int .u64 (a.getD (i) 0))), (20, .sc (.int .i64 ((i : Nat) : Int)))]) (h' := [.box 25 [.arr .u64 12 a], .box 25 [.arr .u64 12 b]]) (by kernel_rfl) rfl ?_
        have hreq := idx_in 12 hlt_i (by decide)
        refine DK.op' [2, 3, 5, 19, 21] (t' := [(2, .ptr 0 0 none), (3, .ptr 1 0 none), (5, .sc (.int .i64 ((i : Nat) : Int))), (19, .sc (.int .u64 (a.getD (i) 0))), (21, .ptr 1 0 (some (i, 12)))]) (h' := [.box 25 [.arr .u64 12 a], .box 25 [.arr .u64 12 b]]) (LSpec.idxPtr (o := 1) (off := 0) (m := 12) (j := ((i : Nat) : Int)) hG hreq (by kernel_rfl)) (by kernel_rfl) rfl (by kernel_rfl) rfl ?_
        refine DK.seg hG 2 [2, 3, 5, 23] (t' := [(2, .ptr 0 0 none), (3, .ptr 1 0 none), (5, .sc (.int .i64 ((i : Nat) : Int))), (23, .sc (.bool (decide ((a.getD (i) 0) > (b.getD (i) 0)))))]) (h' := [.box 25 [.arr .u64 12 a], .box 25 [.arr .u64 12 b]]) (by kernel_rfl) rfl ?_
        refine DK.done (by kernel_rfl) (by kernel_rfl) ?_
        refine AR.cond (.tmp 23) (decide ((a.getD (i) 0) > (b.getD (i) 0))) (by kernel_rfl) (by kernel_rfl) (fun hb => ?ht13) (fun hb => ?hf13)
        case ht13 =>
          replace H := cond_t hb H
          refine AR.seg hG hm 2 [4] (k' := [.code [1, 0, 1, 0, 0, 1, 0, 0, 1, 1, 0, 1], .blk 1, .code [1, 0, 1, 0, 0, 1, 1], .loop [1, 0, 1, 0], .blk 0, .code [1, 1]]) (t' := [(4, .sc (.int .i64 1))]) (h' := [.box 25 [.arr .u64 12 a], .box 25 [.arr .u64 12 b]]) (by kernel_rfl) ?_
          subst H
          obtain rfl := Jr _ rfl
          exact AR.ret0 (fn := Try.f60) hG Try.func60 (by kernel_rfl) hc0 (r0 := .sc (.int .i64 1)) (by kernel_rfl) (WkV.refl _)
        case hf13 =>
          replace H := cond_f hb H
          refine AR.seg hG hm 3 [2, 3, 5] (k' := [.loop [1, 0, 1, 0], .blk 0, .code [1, 1]]) (t' := [(2, .ptr 0 0 none), (3, .ptr 1 0 none), (5, .sc (.int .i64 (IntKind.i64.wrap (((i : Nat) : Int) + 1))))]) (h' := [.box 25 [.arr .u64 12 a], .box 25 [.arr .u64 12 b]]) (by kernel_rfl) ?_
          refine AR.keep [2, 3, 5] (t' := [(2, .ptr 0 0 none), (3, .ptr 1 0 none), (5, .sc (.int .i64 (IntKind.i64.wrap (((i : Nat) : Int) + 1))))]) (by kernel_rfl) ?_
          refine AR.loop_round ?_
          rw [hw]
          exact ih (i + 1) (by omega) H
    case hf11 => exact absurd (hc.symm.trans hb) (by decide)

def podestaref01_Order (a : List Int) (b : List Int) : Int :=
  sumG (fun q => q) (podestaref01_Order_l0s a b 12 0) fun v =>
  0
theorem podestaref01_Order_walk (a : List Int) (b : List Int) (r : Int) (H : podestaref01_Order a b = r) :
    ACalls Try.prog tab.S 60 [.arr .u64 12 a, .arr .u64 12 b] [] (.sc (.int .i64 r)) [] := by
  have hG := tab_ok
  have hm := mixed
  refine ACalls.of_AR (G := tab) podestaref01_Order_F (fn := Try.f60) Try.func60 (by kernel_rfl) (by kernel_rfl) (by kernel_rfl) (Nat.le_of_ble_eq_true (by kernel_rfl)) ?_
  intro c0 hc0
  replace hc0 : c0.m.length = 0 := hc0
  rw [podestaref01_Order] at H
  refine AR.seg hG hm 6 [2, 3, 5] (k' := [.code [1, 0, 1, 0], .blk 0, .code [1, 1]]) (t' := [(2, .ptr 0 0 none), (3, .ptr 1 0 none), (5, .sc (.int .i64 0))]) (h' := [.box 25 [.arr .u64 12 a], .box 25 [.arr .u64 12 b]]) (by kernel_rfl) ?_
  rcases sumG_eq H with ⟨v, hv, H⟩ | ⟨r1, hv, hr1⟩
  case inr =>
    refine AR.into (by kernel_rfl) ?_
    replace hr1 : r1 = r := hr1
    subst hr1
    exact podestaref01_Order_l0_walk a b _ c0 hc0 (.inr _) (fun _ e => by cases e) (fun _ e => (Sum.inr.inj e).symm) 12 0 rfl hv
  refine AR.into (by kernel_rfl) ?_
  refine podestaref01_Order_l0_walk a b r c0 hc0 (.inl v) (fun w e => ?_) (fun _ e => by cases e) 12 0 rfl hv
  have e := Sum.inl.inj e
  subst e
  refine AR.seg hG hm 2 [4] (k' := [.code [1, 1, 1]]) (t' := [(4, .sc (.int .i64 0))]) (h' := [.box 25 [.arr .u64 12 a], .box 25 [.arr .u64 12 b]]) (by kernel_rfl) ?_
  subst H
  exact AR.ret0 (fn := Try.f60) hG Try.func60 (by kernel_rfl) hc0 (r0 := .sc (.int .i64 0)) (by kernel_rfl) (WkV.refl _)
theorem podestaref01_Order_calls (a : List Int) (b : List Int) : ACalls Try.prog tab.S 60 [.arr .u64 12 a, .arr .u64 12 b] [] (.sc (.int .i64 (podestaref01_Order a b))) [] := podestaref01_Order_walk a b _ rfl

/-! ### podestaref01.Compare: function 42 -/
noncomputable def podestaref01_Compare_F : Go.Sh.Fn := ⟨42, bodyOf Try.f42, 19⟩
def podestaref01_Compare_k1 : List Kd := [.pure, .read, .pure, .read, .pure, .pure]
def podestaref01_Compare_k0 : List Kd := [.pure, .read, .pure, .read, .pure, .pure]
def podestaref01_Compare (a : Cube) (b : Cube) : Int :=
  (bif ((podestaref01_Order a.Care b.Care) != 0) then
    (podestaref01_Order a.Care b.Care)
  else
    (podestaref01_Order a.Value b.Value))
theorem podestaref01_Compare_walk (a : Cube) (b : Cube) (r : Int) (H : podestaref01_Compare a b = r) :
    ACalls Try.prog tab.S 42 [Cube.av a, Cube.av b] [] (.sc (.int .i64 r)) [] := by
  have hG := tab_ok
  have hm := mixed
  refine ACalls.of_AR (G := tab) podestaref01_Compare_F (fn := Try.f42) Try.func42 (by kernel_rfl) (by kernel_rfl) (by kernel_rfl) (Nat.le_of_ble_eq_true (by kernel_rfl)) ?_
  intro c0 hc0
  replace hc0 : c0.m.length = 0 := hc0
  rw [podestaref01_Compare] at H
  refine AR.seg hG hm 3 [2, 3] (k' := [.code [1, 0], .code [1, 1]]) (t' := [(2, .ptr 0 0 none), (3, .ptr 1 0 none)]) (h' := [.box 31 (Cube.ch a), .box 31 (Cube.ch b)]) (by kernel_rfl) ?_
  refine AR.reg hm podestaref01_Compare_k0 (by kernel_rfl) ?_
  refine DK.seg hG 4 [2, 3, 7, 9] (t' := [(2, .ptr 0 0 none), (3, .ptr 1 0 none), (7, .arr .u64 12 a.Care), (9, .arr .u64 12 b.Care)]) (h' := [.box 31 (Cube.ch a), .box 31 (Cube.ch b)]) (by kernel_rfl) rfl ?_
  refine DK.op' [2, 3, 10] (t' := [(2, .ptr 0 0 none), (3, .ptr 1 0 none), (10, .sc (.int .i64 (podestaref01_Order a.Care b.Care)))]) (h' := [.box 31 (Cube.ch a), .box 31 (Cube.ch b)]) (LSpec.callP' (podestaref01_Order_calls a.Care b.Care) (by kernel_rfl)) (by kernel_rfl) rfl (by kernel_rfl) rfl ?_
  refine DK.seg hG 1 [2, 3, 5] (t' := [(2, .ptr 0 0 none), (3, .ptr 1 0 none), (5, .sc (.int .i64 (podestaref01_Order a.Care b.Care)))]) (h' := [.box 31 (Cube.ch a), .box 31 (Cube.ch b)]) (by kernel_rfl) rfl ?_
  refine DK.done (by kernel_rfl) (by kernel_rfl) ?_
  refine AR.seg hG hm 3 [2, 3, 5, 12] (k' := [.code [1, 1, 0, 1], .code [1, 1, 1]]) (t' := [(2, .ptr 0 0 none), (3, .ptr 1 0 none), (5, .sc (.int .i64 (podestaref01_Order a.Care b.Care))), (12, .sc (.bool ((podestaref01_Order a.Care b.Care) != 0)))]) (h' := [.box 31 (Cube.ch a), .box 31 (Cube.ch b)]) (by kernel_rfl) ?_
  refine AR.cond (.tmp 12) ((podestaref01_Order a.Care b.Care) != 0) (by kernel_rfl) (by kernel_rfl) (fun hb => ?ht1) (fun hb => ?hf1)
  case ht1 =>
    replace H := cond_t hb H
    refine AR.seg hG hm 2 [4] (k' := [.code [1, 1, 0, 1, 0, 1], .code [1, 1, 1]]) (t' := [(4, .sc (.int .i64 (podestaref01_Order a.Care b.Care)))]) (h' := [.box 31 (Cube.ch a), .box 31 (Cube.ch b)]) (by kernel_rfl) ?_
    subst H
    exact AR.ret0 (fn := Try.f42) hG Try.func42 (by kernel_rfl) hc0 (r0 := .sc (.int .i64 (podestaref01_Order a.Care b.Care))) (by kernel_rfl) (WkV.refl _)
  case hf1 =>
    replace H := cond_f hb H
    refine AR.seg hG hm 2 [2, 3] (k' := [.code [1, 1, 1, 0], .code [1, 1, 1, 1]]) (t' := [(2, .ptr 0 0 none), (3, .ptr 1 0 none)]) (h' := [.box 31 (Cube.ch a), .box 31 (Cube.ch b)]) (by kernel_rfl) ?_
    refine AR.reg hm podestaref01_Compare_k1 (by kernel_rfl) ?_
    refine DK.seg hG 4 [15, 17] (t' := [(15, .arr .u64 12 a.Value), (17, .arr .u64 12 b.Value)]) (h' := [.box 31 (Cube.ch a), .box 31 (Cube.ch b)]) (by kernel_rfl) rfl ?_
    refine DK.op' [18] (t' := [(18, .sc (.int .i64 (podestaref01_Order a.Value b.Value)))]) (h' := [.box 31 (Cube.ch a), .box 31 (Cube.ch b)]) (LSpec.callP' (podestaref01_Order_calls a.Value b.Value) (by kernel_rfl)) (by kernel_rfl) rfl (by kernel_rfl) rfl ?_
    refine DK.seg hG 1 [4] (t' := [(4, .sc (.int .i64 (podestaref01_Order a.Value b.Value)))]) (h' := [.box 31 (Cube.ch a), .box 31 (Cube.ch b)]) (by kernel_rfl) rfl ?_
    refine DK.done (by kernel_rfl) (by kernel_rfl) ?_
    subst H
    exact AR.ret0 (fn := Try.f42) hG Try.func42 (by kernel_rfl) hc0 (r0 := .sc (.int .i64 (podestaref01_Order a.Value b.Value))) (by kernel_rfl) (WkV.refl _)
theorem podestaref01_Compare_calls (a : Cube) (b : Cube) : ACalls Try.prog tab.S 42 [Cube.av a, Cube.av b] [] (.sc (.int .i64 (podestaref01_Compare a b))) [] := podestaref01_Compare_walk a b _ rfl

/-! ### podestaref04.Before: function 19 -/
noncomputable def podestaref04_Before_F : Go.Sh.Fn := ⟨19, bodyOf Try.f19, 21⟩
def podestaref04_Before_k0 : List Kd := [.pure, .read, .pure, .read, .pure, .pure, .pure]
def podestaref04_Before (a : Rule) (b : Rule) : Bool :=
  (bif (a.Prio != b.Prio) then
    (decide (a.Prio > b.Prio))
  else
    (decide ((podestaref01_Compare a.Match b.Match) < 0)))
theorem podestaref04_Before_walk (a : Rule) (b : Rule) (r : Bool) (H : podestaref04_Before a b = r) :
    ACalls Try.prog tab.S 19 [Rule.av a, Rule.av b] [] (.sc (.bool r)) [] := by
  have hG := tab_ok
  have hm := mixed
  refine ACalls.of_AR (G := tab) podestaref04_Before_F (fn := Try.f19) Try.func19 (by kernel_rfl) (by kernel_rfl) (by kernel_rfl) (Nat.le_of_ble_eq_true (by kernel_rfl)) ?_
  intro c0 hc0
  replace hc0 : c0.m.length = 0 := hc0
  rw [podestaref04_Before] at H
  refine AR.seg hG hm 5 [2, 3, 9] (k' := [.code [1, 0, 1], .code [1, 1]]) (t' := [(2, .ptr 0 0 none), (3, .ptr 1 0 none), (9, .sc (.bool (a.Prio != b.Prio)))]) (h' := [.box 34 (Rule.ch a), .box 34 (Rule.ch b)]) (by kernel_rfl) ?_
  refine AR.cond (.tmp 9) (a.Prio != b.Prio) (by kernel_rfl) (by kernel_rfl) (fun hb => ?ht1) (fun hb => ?hf1)
  case ht1 =>
    replace H := cond_t hb H
    refine AR.seg hG hm 2 [4] (k' := [.code [1, 0, 1, 0, 1], .code [1, 1]]) (t' := [(4, .sc (.bool (decide (a.Prio > b.Prio))))]) (h' := [.box 34 (Rule.ch a), .box 34 (Rule.ch b)]) (by kernel_rfl) ?_
    subst H
    exact AR.ret0 (fn := Try.f19) hG Try.func19 (by kernel_rfl) hc0 (r0 := .sc (.bool (decide (a.Prio > b.Prio)))) (by kernel_rfl) (WkV.refl _)
  case hf1 =>
    replace H := cond_f hb H
    refine AR.seg hG hm 2 [2, 3] (k' := [.code [1, 1, 0], .code [1, 1, 1]]) (t' := [(2, .ptr 0 0 none), (3, .ptr 1 0 none)]) (h' := [.box 34 (Rule.ch a), .box 34 (Rule.ch b)]) (by kernel_rfl) ?_
    refine AR.reg hm podestaref04_Before_k0 (by kernel_rfl) ?_
    refine DK.seg hG 4 [16, 18] (t' := [(16, Cube.av a.Match), (18, Cube.av b.Match)]) (h' := [.box 34 (Rule.ch a), .box 34 (Rule.ch b)]) (by kernel_rfl) rfl ?_
    refine DK.op' [19] (t' := [(19, .sc (.int .i64 (podestaref01_Compare a.Match b.Match)))]) (h' := [.box 34 (Rule.ch a), .box 34 (Rule.ch b)]) (LSpec.callP' (podestaref01_Compare_calls a.Match b.Match) (by kernel_rfl)) (by kernel_rfl) rfl (by kernel_rfl) rfl ?_
    refine DK.seg hG 2 [4] (t' := [(4, .sc (.bool (decide ((podestaref01_Compare a.Match b.Match) < 0))))]) (h' := [.box 34 (Rule.ch a), .box 34 (Rule.ch b)]) (by kernel_rfl) rfl ?_
    refine DK.done (by kernel_rfl) (by kernel_rfl) ?_
    subst H
    exact AR.ret0 (fn := Try.f19) hG Try.func19 (by kernel_rfl) hc0 (r0 := .sc (.bool (decide ((podestaref01_Compare a.Match b.Match) < 0)))) (by kernel_rfl) (WkV.refl _)
theorem podestaref04_Before_calls (a : Rule) (b : Rule) : ACalls Try.prog tab.S 19 [Rule.av a, Rule.av b] [] (.sc (.bool (podestaref04_Before a b))) [] := podestaref04_Before_walk a b _ rfl

/-! ### podestaref04.Table: function 27 -/
noncomputable def podestaref04_Table_F : Go.Sh.Fn := ⟨27, bodyOf Try.f27, 33⟩
def podestaref04_Table_k0 : List Kd := [.pure, .pure, .pure, .pure, .pure, .pure, .pure, .pure, .pure, .pure, .pure, .pure, .pure, .pure, .pure, .pure, .pure, .pure, .pure, .pure, .pure, .pure, .pure]
def podestaref04_Table_l0s (l : List Rule) : List Rule → Nat → Option (Sum (Unit) (Bool))
  | [], i =>
    some (.inl ())
  | x :: rest, i =>
    (bif (!(podestaref04_Rule x)) then
      some (.inr false)
    else
      (bif (decide (((i : Nat) : Int) > 0)) then
        (ixO l (IntKind.i64.wrap (((i : Nat) : Int) - 1))).bind fun x1 =>
        (bif (!(podestaref04_Before x1 x)) then
          some (.inr false)
        else
          podestaref04_Table_l0s l rest (i + 1) )
      else
        podestaref04_Table_l0s l rest (i + 1) ))
theorem podestaref04_Table_l0_walk (l : List Rule) (f_l : Bool) (r : Bool) (c0 : Ctx) (hc0 : c0.m.length = 0) (res : Sum (Unit) (Bool)) (J : ∀ w : Unit, res = .inl w → AR Try.prog tab podestaref04_Table_F c0 (Rp tab.S c0 (.sc (.bool r)) []) [.code [1, 1]] [] []) (Jr : ∀ w, res = .inr w → w = r) :
    ∀ (rest : List Rule) (i : Nat) (hd : l.drop i = rest) (H : podestaref04_Table_l0s l rest i = some res), AR Try.prog tab podestaref04_Table_F c0 (Rp tab.S c0 (.sc (.bool r)) []) [.code [1, 0, 1, 0, 0], .loop [1, 0, 1, 0], .blk 0, .code [1, 1]] [(0, .sl 34 (List.map Rule.av l) f_l), (3, .sc (.int .i64 ((i : Nat) : Int)))] [] := by
  have hG := tab_ok
  have hm := mixed
  intro rest
  induction rest with
  | nil =>
    intro i hd  H
    rw [podestaref04_Table_l0s] at H
    refine AR.facts 0 rfl fun hf => ?_
    have hlen : l.length ≤ 9223372036854775807 := by have hq := len_ok hf.2.1; rw [List.length_map] at hq; exact hq
    have hge : l.length ≤ i := List.drop_eq_nil_iff.1 hd
    have hc : (decide (((i : Nat) : Int) < (((List.map Rule.av l).length : Nat) : Int))) = false := by rw [List.length_map]; exact decide_eq_false (by omega)
    refine AR.seg hG hm 3 [0, 3, 7] (k' := [.code [1, 0, 1, 0, 0, 0, 1], .code [1, 0, 1, 0, 0, 1], .loop [1, 0, 1, 0], .blk 0, .code [1, 1]]) (t' := [(0, .sl 34 (List.map Rule.av l) f_l), (3, .sc (.int .i64 ((i : Nat) : Int))), (7, .sc (.bool (decide (((i : Nat) : Int) < (((List.map Rule.av l).length : Nat) : Int)))))]) (h' := []) (by kernel_rfl) ?_
    refine AR.cond (.tmp 7) (decide (((i : Nat) : Int) < (((List.map Rule.av l).length : Nat) : Int))) (by kernel_rfl) (by kernel_rfl) (fun hb => ?ht13) (fun hb => ?hf13)
    case ht13 => exact absurd (hb.symm.trans hc) (by decide)
    case hf13 =>
      refine AR.seg hG hm 1 [] (k' := [.code [1, 1]]) (t' := []) (h' := []) (by kernel_rfl) ?_
      refine AR.keep [] (t' := []) (by kernel_rfl) ?_
      exact J () (Option.some.inj H).symm
  | cons x rest ih =>
    intro i hd  H
    rw [podestaref04_Table_l0s] at H
    refine AR.facts 0 rfl fun hf => ?_
    have hlen : l.length ≤ 9223372036854775807 := by have hq := len_ok hf.2.1; rw [List.length_map] at hq; exact hq
    obtain ⟨hlt, hv_i, hd2⟩ := drop_cons hd
    have hc : (decide (((i : Nat) : Int) < (((List.map Rule.av l).length : Nat) : Int))) = true := by rw [List.length_map]; exact decide_eq_true (by omega)
    have hw : IntKind.i64.wrap (((i : Nat) : Int) + 1) = ((i + 1 : Nat) : Int) := wrapI_succ (by omega)
    refine AR.seg hG hm 3 [0, 3, 7] (k' := [.code [1, 0, 1, 0, 0, 0, 1], .code [1, 0, 1, 0, 0, 1], .loop [1, 0, 1, 0], .blk 0, .code [1, 1]]) (t' := [(0, .sl 34 (List.map Rule.av l) f_l), (3, .sc (.int .i64 ((i : Nat) : Int))), (7, .sc (.bool (decide (((i : Nat) : Int) < (((List.map Rule.av l).length : Nat) : Int)))))]) (h' := []) (by kernel_rfl) ?_
    refine AR.cond (.tmp 7) (decide (((i : Nat) : Int) < (((List.map Rule.av l).length : Nat) : Int))) (by kernel_rfl) (by kernel_rfl) (fun hb => ?ht14) (fun hb => ?hf14)
    case ht14 =>
      refine AR.seg hG hm 4 [0, 3] (k' := [.code [1, 0, 1, 0, 0, 1, 0, 0, 0], .code [1, 0, 1, 0, 0, 1, 0, 0, 1], .blk 1, .code [1, 0, 1, 0, 0, 1, 1], .loop [1, 0, 1, 0], .blk 0, .code [1, 1]]) (t' := [(0, .sl 34 (List.map Rule.av l) f_l), (3, .sc (.int .i64 ((i : Nat) : Int)))]) (h' := []) (by kernel_rfl) ?_
      refine AR.reg hm podestaref04_Table_k0 (by kernel_rfl) ?_
      refine DK.seg hG 2 [0, 3, 10, 11] (t' := [(0, .sl 34 (List.map Rule.av l) f_l), (3, .sc (.int .i64 ((i : Nat) : Int))), (10, .sl 34 (List.map Rule.av l) f_l), (11, .sc (.int .i64 ((i : Nat) : Int)))]) (h' := []) (by kernel_rfl) rfl ?_
      refine DK.op' [0, 3, 12] (t' := [(0, .sl 34 (List.map Rule.av l) f_l), (3, .sc (.int .i64 ((i : Nat) : Int))), (12, .ep [.arr .u64 12 x.Match.Value, .arr .u64 12 x.Match.Care, .sc (.int .i64 x.Prio), .sl 42 (List.map Act.av x.Acts) false, .sc (.int .i64 x.Idle), .sc (.int .i64 x.Hard), .sc (.int .i64 x.Owner), .sc (.int .i64 x.Hits), .sc (.int .i64 x.Quiet), .sc (.int .i64 x.Age)] 0 none)]) (h' := []) (LSpec.index' (r := Rule.av x) (fs := [.arr .u64 12 x.Match.Value, .arr .u64 12 x.Match.Care, .sc (.int .i64 x.Prio), .sl 42 (List.map Act.av x.Acts) false, .sc (.int .i64 x.Idle), .sc (.int .i64 x.Hard), .sc (.int .i64 x.Owner), .sc (.int .i64 x.Hits), .sc (.int .i64 x.Quiet), .sc (.int .i64 x.Age)]) hG (rows := List.map Rule.av l) (j := ((i : Nat) : Int)) (by kernel_rfl) (ixO_map hv_i _) (by kernel_rfl)) (by kernel_rfl) rfl (by kernel_rfl) rfl ?_
      refine DK.seg hG 1 [0, 3, 13] (t' := [(0, .sl 34 (List.map Rule.av l) f_l), (3, .sc (.int .i64 ((i : Nat) : Int))), (13, Rule.av x)]) (h' := []) (by kernel_rfl) rfl ?_
      refine DK.op' [0, 3, 14] (t' := [(0, .sl 34 (List.map Rule.av l) f_l), (3, .sc (.int .i64 ((i : Nat) : Int))), (14, .sc (.bool (podestaref04_Rule x)))]) (h' := []) (LSpec.callP' (podestaref04_Rule_calls x) (by kernel_rfl)) (by kernel_rfl) rfl (by kernel_rfl) rfl ?_
      refine DK.seg hG 2 [0, 3, 16] (t' := [(0, .sl 34 (List.map Rule.av l) f_l), (3, .sc (.int .i64 ((i : Nat) : Int))), (16, .sc (.bool (!(podestaref04_Rule x))))]) (h' := []) (by kernel_rfl) rfl ?_
      refine DK.split 16 (!(podestaref04_Rule x)) (by kernel_rfl) (fun hb => ?ht15) (fun hb => ?hf15)
      case ht15 =>
        replace H := cond_t hb H
        refine DK.seg hG 16 [0, 3, 32] (t' := [(0, .sl 34 (List.map Rule.av l) f_l), (3, .sc (.int .i64 ((i : Nat) : Int))), (32, .sc (.bool true))]) (h' := []) (by kernel_rfl) rfl ?_
        refine DK.done (by kernel_rfl) (by kernel_rfl) ?_
        refine AR.seg hG hm 3 [2] (k' := [.code [1, 0, 1, 0, 0, 1, 0, 0, 1, 0, 1], .blk 1, .code [1, 0, 1, 0, 0, 1, 1], .loop [1, 0, 1, 0], .blk 0, .code [1, 1]]) (t' := [(2, .sc (.bool false))]) (h' := []) (by kernel_rfl) ?_
        obtain rfl := Option.some.inj H
        obtain rfl := Jr _ rfl
        exact AR.ret0 (fn := Try.f27) hG Try.func27 (by kernel_rfl) hc0 (r0 := .sc (.bool false)) (by kernel_rfl) (WkV.refl _)
      case hf15 =>
        replace H := cond_f hb H
        refine DK.seg hG 3 [0, 3, 16, 19] (t' := [(0, .sl 34 (List.map Rule.av l) f_l), (3, .sc (.int .i64 ((i : Nat) : Int))), (16, .sc (.bool false)), (19, .sc (.bool (decide (((i : Nat) : Int) > 0))))]) (h' := []) (by kernel_rfl) rfl ?_
        refine DK.split 19 (decide (((i : Nat) : Int) > 0)) (by kernel_rfl) (fun hb => ?ht16) (fun hb => ?hf16)
        case ht16 =>
          replace H := cond_t hb H
          refine DK.seg hG 3 [0, 3, 16, 19, 20, 22] (t' := [(0, .sl 34 (List.map Rule.av l) f_l), (3, .sc (.int .i64 ((i : Nat) : Int))), (16, .sc (.bool false)), (19, .sc (.bool true)), (20, .sl 34 (List.map Rule.av l) f_l), (22, .sc (.int .i64 (IntKind.i64.wrap (((i : Nat) : Int) - 1))))]) (h' := []) (by kernel_rfl) rfl ?_
          obtain ⟨x1, hv, H⟩ := Option.bind_eq_some_iff.1 H
          refine DK.op' [0, 3, 16, 19, 23] (t' := [(0, .sl 34 (List.map Rule.av l) f_l), (3, .sc (.int .i64 ((i : Nat) : Int))), (16, .sc (.bool false)), (19, .sc (.bool true)), (23, .ep [.arr .u64 12 x1.Match.Value, .arr .u64 12 x1.Match.Care, .sc (.int .i64 x1.Prio), .sl 42 (List.map Act.av x1.Acts) false, .sc (.int .i64 x1.Idle), .sc (.int .i64 x1.Hard), .sc (.int .i64 x1.Owner), .sc (.int .i64 x1.Hits), .sc (.int .i64 x1.Quiet), .sc (.int .i64 x1.Age)] 0 none)]) (h' := []) (LSpec.index' (r := Rule.av x1) (fs := [.arr .u64 12 x1.Match.Value, .arr .u64 12 x1.Match.Care, .sc (.int .i64 x1.Prio), .sl 42 (List.map Act.av x1.Acts) false, .sc (.int .i64 x1.Idle), .sc (.int .i64 x1.Hard), .sc (.int .i64 x1.Owner), .sc (.int .i64 x1.Hits), .sc (.int .i64 x1.Quiet), .sc (.int .i64 x1.Age)]) hG (rows := List.map Rule.av l) (j := (IntKind.i64.wrap (((i : Nat) : Int) - 1))) (by kernel_rfl) (ixO_map hv _) (by kernel_rfl)) (by kernel_rfl) rfl (by kernel_rfl) rfl ?_
          refine DK.seg hG 3 [0, 3, 16, 19, 24, 25, 26] (t' := [(0, .sl 34 (List.map Rule.av l) f_l), (3, .sc (.int .i64 ((i : Nat) : Int))), (16, .sc (.bool false)), (19, .sc (.bool true)), (24, Rule.av x1), (25, .sl 34 (List.map Rule.av l) f_l), (26, .sc (.int .i64 ((i : Nat) : Int)))]) (h' := []) (by kernel_rfl) rfl ?_
          refine DK.op' [0, 3, 16, 19, 24, 27] (t' := [(0, .sl 34 (List.map Rule.av l) f_l), (3, .sc (.int .i64 ((i : Nat) : Int))), (16, .sc (.bool false)), (19, .sc (.bool true)), (24, Rule.av x1), (27, .ep [.arr .u64 12 x.Match.Value, .arr .u64 12 x.Match.Care, .sc (.int .i64 x.Prio), .sl 42 (List.map Act.av x.Acts) false, .sc (.int .i64 x.Idle), .sc (.int .i64 x.Hard), .sc (.int .i64 x.Owner), .sc (.int .i64 x.Hits), .sc (.int .i64 x.Quiet), .sc (.int .i64 x.Age)] 0 none)]) (h' := []) (LSpec.index' (r := Rule.av x) (fs := [.arr .u64 12 x.Match.Value, .arr .u64 12 x.Match.Care, .sc (.int .i64 x.Prio), .sl 42 (List.map Act.av x.Acts) false, .sc (.int .i64 x.Idle), .sc (.int .i64 x.Hard), .sc (.int .i64 x.Owner), .sc (.int .i64 x.Hits), .sc (.int .i64 x.Quiet), .sc (.int .i64 x.Age)]) hG (rows := List.map Rule.av l) (j := ((i : Nat) : Int)) (by kernel_rfl) (ixO_map hv_i _) (by kernel_rfl)) (by kernel_rfl) rfl (by kernel_rfl) rfl ?_
          refine DK.seg hG 1 [0, 3, 16, 19, 24, 28] (t' := [(0, .sl 34 (List.map Rule.av l) f_l), (3, .sc (.int .i64 ((i : Nat) : Int))), (16, .sc (.bool false)), (19, .sc (.bool true)), (24, Rule.av x1), (28, Rule.av x)]) (h' := []) (by kernel_rfl) rfl ?_
          refine DK.op' [0, 3, 16, 19, 29] (t' := [(0, .sl 34 (List.map Rule.av l) f_l), (3, .sc (.int .i64 ((i : Nat) : Int))), (16, .sc (.bool false)), (19, .sc (.bool true)), (29, .sc (.bool (podestaref04_Before x1 x)))]) (h' := []) (LSpec.callP' (podestaref04_Before_calls x1 x) (by kernel_rfl)) (by kernel_rfl) rfl (by kernel_rfl) rfl ?_
          refine DK.seg hG 3 [0, 3, 32] (t' := [(0, .sl 34 (List.map Rule.av l) f_l), (3, .sc (.int .i64 ((i : Nat) : Int))), (32, .sc (.bool (!(podestaref04_Before x1 x))))]) (h' := []) (by kernel_rfl) rfl ?_
          refine DK.done (by kernel_rfl) (by kernel_rfl) ?_
          refine AR.cond (.tmp 32) (!(podestaref04_Before x1 x)) (by kernel_rfl) (by kernel_rfl) (fun hb => ?ht17) (fun hb => ?hf17)
          case ht17 =>
            replace H := cond_t hb H
            refine AR.seg hG hm 2 [2] (k' := [.code [1, 0, 1, 0, 0, 1, 0, 0, 1, 0, 1], .blk 1, .code [1, 0, 1, 0, 0, 1, 1], .loop [1, 0, 1, 0], .blk 0, .code [1, 1]]) (t' := [(2, .sc (.bool false))]) (h' := []) (by kernel_rfl) ?_
            obtain rfl := Option.some.inj H
            obtain rfl := Jr _ rfl
            exact AR.ret0 (fn := Try.f27) hG Try.func27 (by kernel_rfl) hc0 (r0 := .sc (.bool false)) (by kernel_rfl) (WkV.refl _)
          case hf17 =>
            replace H := cond_f hb H
            refine AR.seg hG hm 3 [0, 3] (k' := [.loop [1, 0, 1, 0], .blk 0, .code [1, 1]]) (t' := [(0, .sl 34 (List.map Rule.av l) f_l), (3, .sc (.int .i64 (IntKind.i64.wrap (((i : Nat) : Int) + 1))))]) (h' := []) (by kernel_rfl) ?_
            refine AR.keep [0, 3] (t' := [(0, .sl 34 (List.map Rule.av l) f_l), (3, .sc (.int .i64 (IntKind.i64.wrap (((i : Nat) : Int) + 1))))]) (by kernel_rfl) ?_
            refine AR.loop_round ?_
            rw [hw]
            exact ih (i + 1) hd2 H
        case hf16 =>
          replace H := cond_f hb H
          refine DK.seg hG 13 [0, 3, 32] (t' := [(0, .sl 34 (List.map Rule.av l) f_l), (3, .sc (.int .i64 ((i : Nat) : Int))), (32, .sc (.bool false))]) (h' := []) (by kernel_rfl) rfl ?_
          refine DK.done (by kernel_rfl) (by kernel_rfl) ?_
          refine AR.seg hG hm 4 [0, 3] (k' := [.loop [1, 0, 1, 0], .blk 0, .code [1, 1]]) (t' := [(0, .sl 34 (List.map Rule.av l) f_l), (3, .sc (.int .i64 (IntKind.i64.wrap (((i : Nat) : Int) + 1))))]) (h' := []) (by kernel_rfl) ?_
          refine AR.keep [0, 3] (t' := [(0, .sl 34 (List.map Rule.av l) f_l), (3, .sc (.int .i64 (IntKind.i64.wrap (((i : Nat) : Int) + 1))))]) (by kernel_rfl) ?_
          refine AR.loop_round ?_
          rw [hw]
          exact ih (i + 1) hd2 H
    case hf14 => exact absurd (hc.symm.trans hb) (by decide)

def podestaref04_Table_raw (l : List Rule) : Option (Bool) :=
  loopO (podestaref04_Table_l0s l l 0) fun v =>
  some true
theorem podestaref04_Table_walk (l : List Rule) (f_l : Bool) (r : Bool) (H : podestaref04_Table_raw l = some r) :
    ACalls Try.prog tab.S 27 [.sl 34 (List.map Rule.av l) f_l] [] (.sc (.bool r)) [] := by
  have hG := tab_ok
  have hm := mixed
  refine ACalls.of_AR (G := tab) podestaref04_Table_F (fn := Try.f27) Try.func27 (by kernel_rfl) (by kernel_rfl) (by kernel_rfl) (Nat.le_of_ble_eq_true (by kernel_rfl)) ?_
  intro c0 hc0
  replace hc0 : c0.m.length = 0 := hc0
  rw [podestaref04_Table_raw] at H
  refine AR.seg hG hm 6 [0, 3] (k' := [.code [1, 0, 1, 0], .blk 0, .code [1, 1]]) (t' := [(0, .sl 34 (List.map Rule.av l) f_l), (3, .sc (.int .i64 0))]) (h' := []) (by kernel_rfl) ?_
  rcases loopO_some H with ⟨v, hv, H⟩ | hv
  case inr =>
    refine AR.into (by kernel_rfl) ?_
    exact podestaref04_Table_l0_walk l f_l _ c0 hc0 (.inr _) (fun _ e => by cases e) (fun _ e => (Sum.inr.inj e).symm) l 0 rfl hv
  refine AR.into (by kernel_rfl) ?_
  refine podestaref04_Table_l0_walk l f_l r c0 hc0 (.inl v) (fun w e => ?_) (fun _ e => by cases e) l 0 rfl hv
  have e := Sum.inl.inj e
  subst e
  refine AR.seg hG hm 2 [2] (k' := [.code [1, 1, 1]]) (t' := [(2, .sc (.bool true))]) (h' := []) (by kernel_rfl) ?_
  obtain rfl := Option.some.inj H
  exact AR.ret0 (fn := Try.f27) hG Try.func27 (by kernel_rfl) hc0 (r0 := .sc (.bool true)) (by kernel_rfl) (WkV.refl _)

end Go.Proofs.Ytadolbhmdimbkaa

set_option linter.unusedVariables false
set_option linter.unusedSimpArgs false
set_option maxRecDepth 100000
set_option maxHeartbeats 4000000
namespace Go.Proofs.Ytadolbhmdimbkaa
open Go.Sh
theorem setT_ok {h : List Int} {n v : Int} : ((setT_ h n v).2 == 0) = (head_there n && fitsH n v) := by
  unfold setT_
  cases head_there n
  · rfl
  · cases fitsH n v <;> rfl
theorem act_sound_eq {x : Act} (hv : 0 ≤ x.Value) : act_sound x = actOk x := by
  unfold act_sound actOk
  rw [setT_ok]
  unfold fitsH head_there
  rw [decide_eq_true hv, Bool.true_and]
  rw [Bool.eq_iff_iff]
  cases (x.Kind == 1)
  · cases (x.Kind == 2)
    · simp only [cond_false, Bool.and_eq_true]
      constructor
      · rintro ⟨a, b, c, d⟩; exact ⟨a, ⟨b, c⟩, d⟩
      · rintro ⟨a, ⟨b, c⟩, d⟩; exact ⟨a, b, c, d⟩
    · simp only [cond_false, cond_true, Bool.and_eq_true]
      constructor
      · rintro ⟨⟨⟨a, b⟩, c⟩, d⟩; exact ⟨⟨⟨d, a⟩, b⟩, c⟩
      · rintro ⟨⟨⟨d, a⟩, b⟩, c⟩; exact ⟨⟨⟨a, b⟩, c⟩, d⟩
  · rfl
theorem act_Sound_eq {l : List Act} (hv : ∀ x ∈ l, 0 ≤ x.Value) : act_Sound l = ActsOk l := by
  unfold act_Sound ActsOk
  rw [slices_ContainsFunc__api_Act_any, List.length_map]
  have e : (l.any act_Sound_1) = !(l.all actOk) := by
    rw [← Bool.not_not (l.any act_Sound_1), List.not_any_eq_all_not]
    congr 1
    rw [Bool.eq_iff_iff, List.all_eq_true, List.all_eq_true]
    constructor
    · intro h x hx
      have := h x hx
      unfold act_Sound_1 at this
      rw [act_sound_eq (hv x hx), Bool.not_not] at this
      exact this
    · intro h x hx
      unfold act_Sound_1
      rw [act_sound_eq (hv x hx), Bool.not_not]
      exact h x hx
  rw [e, Bool.not_not, Bool.and_comm]
  congr 1
  rw [Bool.eq_iff_iff, decide_eq_true_eq, decide_eq_true_eq]
  omega

theorem u64_nonneg {v : Int} (h : intW .u64 v) : 0 ≤ v := by
  unfold intW Go.Lit.wf at h
  rw [Bool.and_eq_true, decide_eq_true_eq, decide_eq_true_eq] at h
  exact h.1
theorem Act.wf_val {l : List Act} (w : ∀ y ∈ l, Act.wf y) : ∀ x ∈ l, 0 ≤ x.Value := fun x hx => u64_nonneg (w x hx).2.2.2
theorem arr_nonneg {xs : List Int} {n : Nat} (h : arrW .u64 n xs) (i : Nat) : 0 ≤ xs.getD i 0 := by
  rw [List.getD_eq_getElem?_getD]
  by_cases hi : i < xs.length
  · rw [List.getElem?_eq_getElem hi]
    exact u64_nonneg (h.2 _ (List.getElem_mem hi))
  · rw [List.getElem?_eq_none (by omega)]; exact Int.le_refl 0
theorem head_Sound_l0s_eq {h : List Int} (w : arrW .u64 12 h) : ∀ (n i : Nat), head_Sound_l0s h n i = podestaref01_Head_l0s h n i
  | 0, i => rfl
  | n + 1, i => by
      rw [head_Sound_l0s, podestaref01_Head_l0s, head_Sound_l0s_eq w n (i + 1), refFits_eq]
      unfold fitsH
      rw [decide_eq_true (arr_nonneg w i), Bool.true_and]
theorem head_Sound_eq {h : List Int} (w : arrW .u64 12 h) : head_Sound h = podestaref01_Head h := by
  rw [head_Sound, podestaref01_Head, head_Sound_l0s_eq w]
theorem textOk_false (c : Cube) : ∀ (r i : Nat), textOk c r i false = false
  | 0, _ => rfl
  | r + 1, i => by
      rw [textOk]
      cases badAt c i <;> exact textOk_false c r (i + 1)
theorem cube_Sound_l0s_eq (c : Cube) : ∀ (r i : Nat), cube_Sound_l0s c r i = if textOk c r i true then .inl () else .inr false
  | 0, _ => rfl
  | r + 1, i => by
      rw [cube_Sound_l0s, cube_Sound_l0s_eq c r (i + 1), textOk]
      show (bif badAt c i then _ else _) = _
      cases badAt c i
      · rfl
      · rw [cond_true, cond_true, textOk_false]; rfl
theorem cube_Sound_eq {c : Cube} (w : Cube.wf c) : cube_Sound c = podestaref01_Cube c := by
  rw [cube_Sound, podestaref01_Cube, cube_Sound_l0s_eq]
  unfold textT
  rw [head_Sound_eq w.2]
  cases podestaref01_Head c.Care
  · rw [textOk_false]; rfl
  · cases textOk c 12 0 true <;> rfl
theorem min3_nonneg (a b c : Int) : decide ((if c < (if b < a then b else a) then c else (if b < a then b else a)) ≥ 0) = ((decide (a ≥ 0) && decide (b ≥ 0)) && decide (c ≥ 0)) := by
  rw [Bool.eq_iff_iff]
  simp only [Bool.and_eq_true, decide_eq_true_eq]
  (repeat' split) <;> omega
theorem rule_Sound_eq {x : Rule} (w : Rule.wf x) : rule_Sound x = podestaref04_Rule x := by
  rw [rule_Sound, podestaref04_Rule, cube_Sound_eq w.1, act_Sound_eq (Act.wf_val w.2.2.1), refActs_eq, min3_nonneg]
  have e : ∀ a b, rule_span a b = podestaref04_span a b := fun _ _ => rfl
  simp only [e, Bool.and_assoc]
theorem Order_l0s_eq : ∀ (n i : Nat) (a b : List Int), a.length = i + n → b.length = i + n → (match podestaref01_Order_l0s a b n i with | .inl _ => (0 : Int) | .inr v => v) = cmpL cmp_Compare_uint64 (a.drop i) (b.drop i)
  | 0, i, a, b, ha, hb => by
      rw [List.drop_eq_nil_of_le (by omega), List.drop_eq_nil_of_le (by omega)]; rfl
  | n + 1, i, a, b, ha, hb => by
      have h1 : i < a.length := by omega
      have h2 : i < b.length := by omega
      rw [List.drop_eq_getElem_cons h1, List.drop_eq_getElem_cons h2, cmpL_cons, ← Order_l0s_eq n (i + 1) a b (by omega) (by omega), podestaref01_Order_l0s]
      have ea : a.getD i 0 = a[i] := by rw [List.getD_eq_getElem?_getD, List.getElem?_eq_getElem h1]; rfl
      have eb : b.getD i 0 = b[i] := by rw [List.getD_eq_getElem?_getD, List.getElem?_eq_getElem h2]; rfl
      have hc : cmp_Compare_uint64 a[i] b[i] = if a[i] < b[i] then -1 else if a[i] > b[i] then 1 else 0 := by
        have h : ∀ z, cmp_isNaN_uint64 z = false := fun z => by simp [cmp_isNaN_uint64]
        rw [cmp_Compare_uint64, h, h]
        by_cases h1 : a[i] < b[i]
        · simp [h1]
        · by_cases h2 : a[i] > b[i]
          · simp [h1, h2]
          · simp [h1, h2]
      rw [ea, eb, hc]
      by_cases q1 : a[i] < b[i]
      · simp [q1]
      · by_cases q2 : a[i] > b[i]
        · simp [q1, q2]
        · simp [q1, q2]
theorem Order_eq {a b : List Int} (ha : a.length = 12) (hb : b.length = 12) : podestaref01_Order a b = cmpL cmp_Compare_uint64 a b := by
  rw [podestaref01_Order]
  have h := Order_l0s_eq 12 0 a b (by omega) (by omega)
  rw [List.drop_zero, List.drop_zero] at h
  rw [← h]
  cases podestaref01_Order_l0s a b 12 0 <;> rfl
theorem refBefore_eq {a b : Rule} (wa : Rule.wf a) (wb : Rule.wf b) : podestaref04_Before a b = rule_Before a b := by
  rw [rule_Before, rule_compare, podestaref04_Before, podestaref01_Compare, cube_Compare, cmp_Or_two, head_Compare_eq, head_Compare_eq, Order_eq wa.1.2.1 wb.1.2.1, Order_eq wa.1.1.1 wb.1.1.1]
  cases h : a.Prio != b.Prio
  · simp only [cond_false]
    by_cases q : cmpL cmp_Compare_uint64 a.Match.Care b.Match.Care = 0
    · simp [q]
    · have : (cmpL cmp_Compare_uint64 a.Match.Care b.Match.Care != 0) = true := by simp [q]
      rw [this, cond_true, if_neg q]
  · simp only [cond_true]
    cases decide (a.Prio > b.Prio) <;> rfl
theorem refTable_l0s_eq (all : List Rule) (w : ∀ y ∈ all, Rule.wf y) : ∀ (l : List Rule) (i : Nat), all.drop i = l → podestaref04_Table_l0s all l i = rule_Table_l0s all l i
  | [], i, _ => by rw [podestaref04_Table_l0s, rule_Table_l0s]
  | x :: l, i, h => by
      have hlt : i < all.length := by
        rcases Nat.lt_or_ge i all.length with q | q
        · exact q
        · rw [List.drop_eq_nil_of_le q] at h; cases h
      rw [List.drop_eq_getElem_cons hlt] at h
      injection h with h1 h2
      have hx : x ∈ all := by rw [← h1]; exact List.getElem_mem hlt
      rw [podestaref04_Table_l0s, rule_Table_l0s, refTable_l0s_eq all w l (i + 1) h2, rule_Sound_eq (w x hx)]
      cases podestaref04_Rule x
      · rfl
      · simp only [Bool.not_true, cond_false]
        cases decide (((i : Nat) : Int) > 0)
        · rfl
        · simp only [cond_true]
          cases hq : ixO all (IntKind.i64.wrap (((i : Nat) : Int) - 1)) with
          | none => rfl
          | some y =>
            have hy : y ∈ all := by
              unfold ixO at hq
              split at hq
              · exact List.mem_of_getElem? hq
              · cases hq
            simp only [Option.bind_some, refBefore_eq (w y hy) (w x hx)]
theorem refTable_raw_eq (l : List Rule) (w : ∀ y ∈ l, Rule.wf y) (h : l.length ≤ 1000000000000000) : podestaref04_Table_raw l = some (tableR l) := by
  rw [podestaref04_Table_raw, refTable_l0s_eq l w l 0 rfl, rule_Table_l0s_eq l h l 0 rfl, if_pos rfl]
  unfold tableR
  cases tableF none l <;> rfl

end Go.Proofs.Ytadolbhmdimbkaa

set_option linter.unusedVariables false
set_option linter.unusedSimpArgs false
set_option maxRecDepth 100000
set_option maxHeartbeats 4000000
namespace Go.Proofs.Ytadolbhmdimbkaa
open Go.Sh
/-! ### podestaref04.Sort: function 28 -/
noncomputable def podestaref04_Sort_F : Go.Sh.Fn := ⟨28, bodyOf Try.f28, 70⟩
def podestaref04_Sort_k1 : List Kd := [.pure, .pure, .pure, .pure, .pure, .pure, .pure, .pure, .pure, .pure, .pure, .pure, .pure, .pure, .pure]
def podestaref04_Sort_k5 : List Kd := [.pure, .pure, .pure, .pure, .loud, .pure, .pure, .pure, .pure, .pure, .loud, .pure, .loud, .pure]
def podestaref04_Sort_k4 : List Kd := [.pure, .loud, .pure]
def podestaref04_Sort_k6 : List Kd := [.pure, .pure, .pure, .pure, .loud, .pure, .pure, .pure, .pure, .pure, .loud, .pure, .loud, .pure]
def podestaref04_Sort_k7 : List Kd := [.pure, .pure, .pure, .pure, .loud, .pure, .pure, .pure, .pure, .pure, .loud, .pure, .loud, .pure]
def podestaref04_Sort_k3 : List Kd := [.pure, .read, .pure, .pure, .pure, .read, .read, .pure, .pure, .pure, .pure, .pure, .pure]
def podestaref04_Sort_k2 : List Kd := [.pure, .pure, .pure, .pure, .loud, .pure]
def podestaref04_Sort_k0 : List Kd := [.pure, .pure, .pure, .pure, .pure, .pure]
def podestaref04_Sort_l1 (out : List Rule) (x : Rule) : Nat → Int → Option (Int)
  | 0, _ => none
  | m + 1, k1 =>
    (bif (decide (k1 < (((List.map Rule.av out).length : Nat) : Int))) then
    (ixO out k1).bind fun x1 =>
    (bif (podestaref04_Before x1 x) then
      podestaref04_Sort_l1 out x m (IntKind.i64.wrap (k1 + 1))
    else
      some k1)
  else
    some k1)
theorem podestaref04_Sort_l1_walk (q1 : Nat) (l : List Rule) (i : Nat) (out : List Rule) (x : Rule) (hv_i : ixO l ((i : Nat) : Int) = some x) (f_l : Bool) (r : (List Rule)) (c0 : Ctx) (hc0 : c0.m.length = 0) (res : Int) (J : AR Try.prog tab podestaref04_Sort_F c0 (Rp tab.S c0 (.sl 34 (List.map Rule.av r) false) []) [.code [1, 1, 0, 1, 0, 0, 1, 0, 0, 1, 1, 1], .blk 1, .code [1, 1, 0, 1, 0, 0, 1, 1], .loop [1, 1, 0, 1, 0], .blk 0, .code [1, 1, 1]] [(0, .sl 34 (List.map Rule.av l) f_l), (3, .sl 34 (List.map Rule.av out) false), (4, .sc (.int .i64 ((i : Nat) : Int))), (5, .sc (.int .i64 res))] []) :
    ∀ (m : Nat) (k1 : Int) (H : podestaref04_Sort_l1 out x m k1 = some res), AR Try.prog tab podestaref04_Sort_F c0 (Rp tab.S c0 (.sl 34 (List.map Rule.av r) false) []) [.code [1, 1, 0, 1, 0, 0, 1, 0, 0, 1, 1, 0, 0, 0], .loop [1, 1, 0, 1, 0, 0, 1, 0, 0, 1, 1, 0, 0], .blk 2, .code [1, 1, 0, 1, 0, 0, 1, 0, 0, 1, 1, 1], .blk 1, .code [1, 1, 0, 1, 0, 0, 1, 1], .loop [1, 1, 0, 1, 0], .blk 0, .code [1, 1, 1]] [(0, .sl 34 (List.map Rule.av l) f_l), (3, .sl 34 (List.map Rule.av out) false), (4, .sc (.int .i64 ((i : Nat) : Int))), (5, .sc (.int .i64 k1))] [] := by
  have hG := tab_ok
  have hm := mixed
  intro m
  induction m with
  | zero => intro k1 H; cases H
  | succ m ih =>
    intro k1 H
    rw [podestaref04_Sort_l1] at H
    refine AR.seg hG hm 2 [0, 3, 4, 5] (k' := [.code [1, 1, 0, 1, 0, 0, 1, 0, 0, 1, 1, 0, 0, 0, 0, 0], .code [1, 1, 0, 1, 0, 0, 1, 0, 0, 1, 1, 0, 0, 0, 0, 1], .code [1, 1, 0, 1, 0, 0, 1, 0, 0, 1, 1, 0, 0, 0, 1], .loop [1, 1, 0, 1, 0, 0, 1, 0, 0, 1, 1, 0, 0], .blk 2, .code [1, 1, 0, 1, 0, 0, 1, 0, 0, 1, 1, 1], .blk 1, .code [1, 1, 0, 1, 0, 0, 1, 1], .loop [1, 1, 0, 1, 0], .blk 0, .code [1, 1, 1]]) (t' := [(0, .sl 34 (List.map Rule.av l) f_l), (3, .sl 34 (List.map Rule.av out) false), (4, .sc (.int .i64 ((i : Nat) : Int))), (5, .sc (.int .i64 k1))]) (h' := []) (by kernel_rfl) ?_
    refine AR.reg hm podestaref04_Sort_k1 (by kernel_rfl) ?_
    refine DK.seg hG 5 [0, 3, 4, 5, 23] (t' := [(0, .sl 34 (List.map Rule.av l) f_l), (3, .sl 34 (List.map Rule.av out) false), (4, .sc (.int .i64 ((i : Nat) : Int))), (5, .sc (.int .i64 k1)), (23, .sc (.bool (decide (k1 < (((List.map Rule.av out).length : Nat) : Int)))))]) (h' := []) (by kernel_rfl) rfl ?_
    refine DK.split 23 (decide (k1 < (((List.map Rule.av out).length : Nat) : Int))) (by kernel_rfl) (fun hb => ?ht40) (fun hb => ?hf40)
    case ht40 =>
      replace H := cond_t hb H
      refine DK.seg hG 2 [0, 3, 4, 5, 23, 24, 25] (t' := [(0, .sl 34 (List.map Rule.av l) f_l), (3, .sl 34 (List.map Rule.av out) false), (4, .sc (.int .i64 ((i : Nat) : Int))), (5, .sc (.int .i64 k1)), (23, .sc (.bool true)), (24, .sl 34 (List.map Rule.av out) false), (25, .sc (.int .i64 k1))]) (h' := []) (by kernel_rfl) rfl ?_
      obtain ⟨x1, hv, H⟩ := Option.bind_eq_some_iff.1 H
      refine DK.op' [0, 3, 4, 5, 23, 26] (t' := [(0, .sl 34 (List.map Rule.av l) f_l), (3, .sl 34 (List.map Rule.av out) false), (4, .sc (.int .i64 ((i : Nat) : Int))), (5, .sc (.int .i64 k1)), (23, .sc (.bool true)), (26, .ep [.arr .u64 12 x1.Match.Value, .arr .u64 12 x1.Match.Care, .sc (.int .i64 x1.Prio), .sl 42 (List.map Act.av x1.Acts) false, .sc (.int .i64 x1.Idle), .sc (.int .i64 x1.Hard), .sc (.int .i64 x1.Owner), .sc (.int .i64 x1.Hits), .sc (.int .i64 x1.Quiet), .sc (.int .i64 x1.Age)] 0 none)]) (h' := []) (LSpec.index' (r := Rule.av x1) (fs := [.arr .u64 12 x1.Match.Value, .arr .u64 12 x1.Match.Care, .sc (.int .i64 x1.Prio), .sl 42 (List.map Act.av x1.Acts) false, .sc (.int .i64 x1.Idle), .sc (.int .i64 x1.Hard), .sc (.int .i64 x1.Owner), .sc (.int .i64 x1.Hits), .sc (.int .i64 x1.Quiet), .sc (.int .i64 x1.Age)]) hG (rows := List.map Rule.av out) (j := k1) (by kernel_rfl) (ixO_map hv _) (by kernel_rfl)) (by kernel_rfl) rfl (by kernel_rfl) rfl ?_
      refine DK.seg hG 3 [0, 3, 4, 5, 23, 27, 28, 29] (t' := [(0, .sl 34 (List.map Rule.av l) f_l), (3, .sl 34 (List.map Rule.av out) false), (4, .sc (.int .i64 ((i : Nat) : Int))), (5, .sc (.int .i64 k1)), (23, .sc (.bool true)), (27, Rule.av x1), (28, .sl 34 (List.map Rule.av l) f_l), (29, .sc (.int .i64 ((i : Nat) : Int)))]) (h' := []) (by kernel_rfl) rfl ?_
      refine DK.op' [0, 3, 4, 5, 23, 27, 30] (t' := [(0, .sl 34 (List.map Rule.av l) f_l), (3, .sl 34 (List.map Rule.av out) false), (4, .sc (.int .i64 ((i : Nat) : Int))), (5, .sc (.int .i64 k1)), (23, .sc (.bool true)), (27, Rule.av x1), (30, .ep [.arr .u64 12 x.Match.Value, .arr .u64 12 x.Match.Care, .sc (.int .i64 x.Prio), .sl 42 (List.map Act.av x.Acts) false, .sc (.int .i64 x.Idle), .sc (.int .i64 x.Hard), .sc (.int .i64 x.Owner), .sc (.int .i64 x.Hits), .sc (.int .i64 x.Quiet), .sc (.int .i64 x.Age)] 0 none)]) (h' := []) (LSpec.index' (r := Rule.av x) (fs := [.arr .u64 12 x.Match.Value, .arr .u64 12 x.Match.Care, .sc (.int .i64 x.Prio), .sl 42 (List.map Act.av x.Acts) false, .sc (.int .i64 x.Idle), .sc (.int .i64 x.Hard), .sc (.int .i64 x.Owner), .sc (.int .i64 x.Hits), .sc (.int .i64 x.Quiet), .sc (.int .i64 x.Age)]) hG (rows := List.map Rule.av l) (j := ((i : Nat) : Int)) (by kernel_rfl) (ixO_map hv_i _) (by kernel_rfl)) (by kernel_rfl) rfl (by kernel_rfl) rfl ?_
      refine DK.seg hG 1 [0, 3, 4, 5, 23, 27, 31] (t' := [(0, .sl 34 (List.map Rule.av l) f_l), (3, .sl 34 (List.map Rule.av out) false), (4, .sc (.int .i64 ((i : Nat) : Int))), (5, .sc (.int .i64 k1)), (23, .sc (.bool true)), (27, Rule.av x1), (31, Rule.av x)]) (h' := []) (by kernel_rfl) rfl ?_
      refine DK.op' [0, 3, 4, 5, 23, 32] (t' := [(0, .sl 34 (List.map Rule.av l) f_l), (3, .sl 34 (List.map Rule.av out) false), (4, .sc (.int .i64 ((i : Nat) : Int))), (5, .sc (.int .i64 k1)), (23, .sc (.bool true)), (32, .sc (.bool (podestaref04_Before x1 x)))]) (h' := []) (LSpec.callP' (podestaref04_Before_calls x1 x) (by kernel_rfl)) (by kernel_rfl) rfl (by kernel_rfl) rfl ?_
      refine DK.seg hG 1 [0, 3, 4, 5, 33] (t' := [(0, .sl 34 (List.map Rule.av l) f_l), (3, .sl 34 (List.map Rule.av out) false), (4, .sc (.int .i64 ((i : Nat) : Int))), (5, .sc (.int .i64 k1)), (33, .sc (.bool (podestaref04_Before x1 x)))]) (h' := []) (by kernel_rfl) rfl ?_
      refine DK.done (by kernel_rfl) (by kernel_rfl) ?_
      refine AR.cond (.tmp 33) (podestaref04_Before x1 x) (by kernel_rfl) (by kernel_rfl) (fun hb => ?ht41) (fun hb => ?hf41)
      case ht41 =>
        replace H := cond_t hb H
        refine AR.seg hG hm 4 [0, 3, 4, 5] (k' := [.loop [1, 1, 0, 1, 0, 0, 1, 0, 0, 1, 1, 0, 0], .blk 2, .code [1, 1, 0, 1, 0, 0, 1, 0, 0, 1, 1, 1], .blk 1, .code [1, 1, 0, 1, 0, 0, 1, 1], .loop [1, 1, 0, 1, 0], .blk 0, .code [1, 1, 1]]) (t' := [(0, .sl 34 (List.map Rule.av l) f_l), (3, .sl 34 (List.map Rule.av out) false), (4, .sc (.int .i64 ((i : Nat) : Int))), (5, .sc (.int .i64 (IntKind.i64.wrap (k1 + 1))))]) (h' := []) (by kernel_rfl) ?_
        refine AR.keep [0, 3, 4, 5] (t' := [(0, .sl 34 (List.map Rule.av l) f_l), (3, .sl 34 (List.map Rule.av out) false), (4, .sc (.int .i64 ((i : Nat) : Int))), (5, .sc (.int .i64 (IntKind.i64.wrap (k1 + 1))))]) (by kernel_rfl) ?_
        refine AR.loop_round ?_
        exact ih (IntKind.i64.wrap (k1 + 1)) H
      case hf41 =>
        replace H := cond_f hb H
        refine AR.seg hG hm 1 [0, 3, 4, 5] (k' := [.code [1, 1, 0, 1, 0, 0, 1, 0, 0, 1, 1, 1], .blk 1, .code [1, 1, 0, 1, 0, 0, 1, 1], .loop [1, 1, 0, 1, 0], .blk 0, .code [1, 1, 1]]) (t' := [(0, .sl 34 (List.map Rule.av l) f_l), (3, .sl 34 (List.map Rule.av out) false), (4, .sc (.int .i64 ((i : Nat) : Int))), (5, .sc (.int .i64 k1))]) (h' := []) (by kernel_rfl) ?_
        refine AR.keep [0, 3, 4, 5] (t' := [(0, .sl 34 (List.map Rule.av l) f_l), (3, .sl 34 (List.map Rule.av out) false), (4, .sc (.int .i64 ((i : Nat) : Int))), (5, .sc (.int .i64 k1))]) (by kernel_rfl) ?_
        obtain rfl := Option.some.inj H
        exact J
    case hf40 =>
      replace H := cond_f hb H
      refine DK.seg hG 10 [0, 3, 4, 5, 33] (t' := [(0, .sl 34 (List.map Rule.av l) f_l), (3, .sl 34 (List.map Rule.av out) false), (4, .sc (.int .i64 ((i : Nat) : Int))), (5, .sc (.int .i64 k1)), (33, .sc (.bool false))]) (h' := []) (by kernel_rfl) rfl ?_
      refine DK.done (by kernel_rfl) (by kernel_rfl) ?_
      refine AR.seg hG hm 2 [0, 3, 4, 5] (k' := [.code [1, 1, 0, 1, 0, 0, 1, 0, 0, 1, 1, 1], .blk 1, .code [1, 1, 0, 1, 0, 0, 1, 1], .loop [1, 1, 0, 1, 0], .blk 0, .code [1, 1, 1]]) (t' := [(0, .sl 34 (List.map Rule.av l) f_l), (3, .sl 34 (List.map Rule.av out) false), (4, .sc (.int .i64 ((i : Nat) : Int))), (5, .sc (.int .i64 k1))]) (h' := []) (by kernel_rfl) ?_
      refine AR.keep [0, 3, 4, 5] (t' := [(0, .sl 34 (List.map Rule.av l) f_l), (3, .sl 34 (List.map Rule.av out) false), (4, .sc (.int .i64 ((i : Nat) : Int))), (5, .sc (.int .i64 k1))]) (by kernel_rfl) ?_
      obtain rfl := Option.some.inj H
      exact J
def podestaref04_Sort_l0s (q1 : Nat) : List Rule → List Rule → Option ((List Rule))
  | [], out =>
    some out
  | x :: rest, out =>
    (bif (!(podestaref04_Rule x)) then
      podestaref04_Sort_l0s q1 rest out
    else
      (podestaref04_Sort_l1 out x q1 0).bind fun v =>
      (sliceO out (some v) none none).bind fun x1 =>
      fitO (([] : List Rule).length + x1.length) 272 (
      (bif (decide ((((List.map Rule.av (([] : List Rule) ++ x1)).length : Nat) : Int) > 0)) then
        (ixO (([] : List Rule) ++ x1) 0).bind fun x2 =>
        (bif (podestaref04_Key x2 x) then
          (sliceO (([] : List Rule) ++ x1) (some 1) none none).bind fun x3 =>
          (sliceO out none (some v) none).bind fun x4 =>
          fitO (([] : List Rule).length + x4.length) 272 (
          fitO ((([] : List Rule) ++ x4).length + [x].length) 272 (
          fitO (((([] : List Rule) ++ x4) ++ [x]).length + x3.length) 272 (
          podestaref04_Sort_l0s q1 rest (((([] : List Rule) ++ x4) ++ [x]) ++ x3))))
        else
          (sliceO out none (some v) none).bind fun x5 =>
          fitO (([] : List Rule).length + x5.length) 272 (
          fitO ((([] : List Rule) ++ x5).length + [x].length) 272 (
          fitO (((([] : List Rule) ++ x5) ++ [x]).length + (([] : List Rule) ++ x1).length) 272 (
          podestaref04_Sort_l0s q1 rest (((([] : List Rule) ++ x5) ++ [x]) ++ (([] : List Rule) ++ x1))))))
      else
        (sliceO out none (some v) none).bind fun x6 =>
        fitO (([] : List Rule).length + x6.length) 272 (
        fitO ((([] : List Rule) ++ x6).length + [x].length) 272 (
        fitO (((([] : List Rule) ++ x6) ++ [x]).length + (([] : List Rule) ++ x1).length) 272 (
        podestaref04_Sort_l0s q1 rest (((([] : List Rule) ++ x6) ++ [x]) ++ (([] : List Rule) ++ x1))))))))
theorem podestaref04_Sort_l0_walk (q1 : Nat) (l : List Rule) (f_l : Bool) (r : (List Rule)) (c0 : Ctx) (hc0 : c0.m.length = 0) (res : (List Rule)) (J : AR Try.prog tab podestaref04_Sort_F c0 (Rp tab.S c0 (.sl 34 (List.map Rule.av r) false) []) [.code [1, 1, 1]] [(3, .sl 34 (List.map Rule.av res) false)] []) :
    ∀ (rest : List Rule) (i : Nat) (hd : l.drop i = rest) (out : List Rule) (H : podestaref04_Sort_l0s q1 rest out = some res), AR Try.prog tab podestaref04_Sort_F c0 (Rp tab.S c0 (.sl 34 (List.map Rule.av r) false) []) [.code [1, 1, 0, 1, 0, 0], .loop [1, 1, 0, 1, 0], .blk 0, .code [1, 1, 1]] [(0, .sl 34 (List.map Rule.av l) f_l), (3, .sl 34 (List.map Rule.av out) false), (4, .sc (.int .i64 ((i : Nat) : Int)))] [] := by
  have hG := tab_ok
  have hm := mixed
  intro rest
  induction rest with
  | nil =>
    intro i hd out H
    rw [podestaref04_Sort_l0s] at H
    refine AR.facts 0 rfl fun hf => ?_
    have hlen : l.length ≤ 9223372036854775807 := by have hq := len_ok hf.2.1; rw [List.length_map] at hq; exact hq
    have hge : l.length ≤ i := List.drop_eq_nil_iff.1 hd
    have hc : (decide (((i : Nat) : Int) < (((List.map Rule.av l).length : Nat) : Int))) = false := by rw [List.length_map]; exact decide_eq_false (by omega)
    refine AR.seg hG hm 3 [0, 3, 4, 10] (k' := [.code [1, 1, 0, 1, 0, 0, 0, 1], .code [1, 1, 0, 1, 0, 0, 1], .loop [1, 1, 0, 1, 0], .blk 0, .code [1, 1, 1]]) (t' := [(0, .sl 34 (List.map Rule.av l) f_l), (3, .sl 34 (List.map Rule.av out) false), (4, .sc (.int .i64 ((i : Nat) : Int))), (10, .sc (.bool (decide (((i : Nat) : Int) < (((List.map Rule.av l).length : Nat) : Int)))))]) (h' := []) (by kernel_rfl) ?_
    refine AR.cond (.tmp 10) (decide (((i : Nat) : Int) < (((List.map Rule.av l).length : Nat) : Int))) (by kernel_rfl) (by kernel_rfl) (fun hb => ?ht33) (fun hb => ?hf33)
    case ht33 => exact absurd (hb.symm.trans hc) (by decide)
    case hf33 =>
      refine AR.seg hG hm 1 [3] (k' := [.code [1, 1, 1]]) (t' := [(3, .sl 34 (List.map Rule.av out) false)]) (h' := []) (by kernel_rfl) ?_
      refine AR.keep [3] (t' := [(3, .sl 34 (List.map Rule.av out) false)]) (by kernel_rfl) ?_
      obtain rfl := Option.some.inj H
      exact J
  | cons x rest ih =>
    intro i hd out H
    rw [podestaref04_Sort_l0s] at H
    refine AR.facts 0 rfl fun hf => ?_
    have hlen : l.length ≤ 9223372036854775807 := by have hq := len_ok hf.2.1; rw [List.length_map] at hq; exact hq
    obtain ⟨hlt, hv_i, hd2⟩ := drop_cons hd
    have hc : (decide (((i : Nat) : Int) < (((List.map Rule.av l).length : Nat) : Int))) = true := by rw [List.length_map]; exact decide_eq_true (by omega)
    have hw : IntKind.i64.wrap (((i : Nat) : Int) + 1) = ((i + 1 : Nat) : Int) := wrapI_succ (by omega)
    refine AR.seg hG hm 3 [0, 3, 4, 10] (k' := [.code [1, 1, 0, 1, 0, 0, 0, 1], .code [1, 1, 0, 1, 0, 0, 1], .loop [1, 1, 0, 1, 0], .blk 0, .code [1, 1, 1]]) (t' := [(0, .sl 34 (List.map Rule.av l) f_l), (3, .sl 34 (List.map Rule.av out) false), (4, .sc (.int .i64 ((i : Nat) : Int))), (10, .sc (.bool (decide (((i : Nat) : Int) < (((List.map Rule.av l).length : Nat) : Int)))))]) (h' := []) (by kernel_rfl) ?_
    refine AR.cond (.tmp 10) (decide (((i : Nat) : Int) < (((List.map Rule.av l).length : Nat) : Int))) (by kernel_rfl) (by kernel_rfl) (fun hb => ?ht34) (fun hb => ?hf34)
    case ht34 =>
      refine AR.seg hG hm 5 [0, 3, 4] (k' := [.code [1, 1, 0, 1, 0, 0, 1, 0, 0, 0, 0], .code [1, 1, 0, 1, 0, 0, 1, 0, 0, 0, 1], .code [1, 1, 0, 1, 0, 0, 1, 0, 0, 1], .blk 1, .code [1, 1, 0, 1, 0, 0, 1, 1], .loop [1, 1, 0, 1, 0], .blk 0, .code [1, 1, 1]]) (t' := [(0, .sl 34 (List.map Rule.av l) f_l), (3, .sl 34 (List.map Rule.av out) false), (4, .sc (.int .i64 ((i : Nat) : Int)))]) (h' := []) (by kernel_rfl) ?_
      refine AR.reg hm podestaref04_Sort_k0 (by kernel_rfl) ?_
      refine DK.seg hG 2 [0, 3, 4, 13, 14] (t' := [(0, .sl 34 (List.map Rule.av l) f_l), (3, .sl 34 (List.map Rule.av out) false), (4, .sc (.int .i64 ((i : Nat) : Int))), (13, .sl 34 (List.map Rule.av l) f_l), (14, .sc (.int .i64 ((i : Nat) : Int)))]) (h' := []) (by kernel_rfl) rfl ?_
      refine DK.op' [0, 3, 4, 15] (t' := [(0, .sl 34 (List.map Rule.av l) f_l), (3, .sl 34 (List.map Rule.av out) false), (4, .sc (.int .i64 ((i : Nat) : Int))), (15, .ep [.arr .u64 12 x.Match.Value, .arr .u64 12 x.Match.Care, .sc (.int .i64 x.Prio), .sl 42 (List.map Act.av x.Acts) false, .sc (.int .i64 x.Idle), .sc (.int .i64 x.Hard), .sc (.int .i64 x.Owner), .sc (.int .i64 x.Hits), .sc (.int .i64 x.Quiet), .sc (.int .i64 x.Age)] 0 none)]) (h' := []) (LSpec.index' (r := Rule.av x) (fs := [.arr .u64 12 x.Match.Value, .arr .u64 12 x.Match.Care, .sc (.int .i64 x.Prio), .sl 42 (List.map Act.av x.Acts) false, .sc (.int .i64 x.Idle), .sc (.int .i64 x.Hard), .sc (.int .i64 x.Owner), .sc (.int .i64 x.Hits), .sc (.int .i64 x.Quiet), .sc (.int .i64 x.Age)]) hG (rows := List.map Rule.av l) (j := ((i : Nat) : Int)) (by kernel_rfl) (ixO_map hv_i _) (by kernel_rfl)) (by kernel_rfl) rfl (by kernel_rfl) rfl ?_
      refine DK.seg hG 1 [0, 3, 4, 16] (t' := [(0, .sl 34 (List.map Rule.av l) f_l), (3, .sl 34 (List.map Rule.av out) false), (4, .sc (.int .i64 ((i : Nat) : Int))), (16, Rule.av x)]) (h' := []) (by kernel_rfl) rfl ?_
      refine DK.op' [0, 3, 4, 17] (t' := [(0, .sl 34 (List.map Rule.av l) f_l), (3, .sl 34 (List.map Rule.av out) false), (4, .sc (.int .i64 ((i : Nat) : Int))), (17, .sc (.bool (podestaref04_Rule x)))]) (h' := []) (LSpec.callP' (podestaref04_Rule_calls x) (by kernel_rfl)) (by kernel_rfl) rfl (by kernel_rfl) rfl ?_
      refine DK.seg hG 1 [0, 3, 4, 18] (t' := [(0, .sl 34 (List.map Rule.av l) f_l), (3, .sl 34 (List.map Rule.av out) false), (4, .sc (.int .i64 ((i : Nat) : Int))), (18, .sc (.bool (!(podestaref04_Rule x))))]) (h' := []) (by kernel_rfl) rfl ?_
      refine DK.done (by kernel_rfl) (by kernel_rfl) ?_
      refine AR.cond (.tmp 18) (!(podestaref04_Rule x)) (by kernel_rfl) (by kernel_rfl) (fun hb => ?ht35) (fun hb => ?hf35)
      case ht35 =>
        replace H := cond_t hb H
        refine AR.seg hG hm 2 [0, 3, 4] (k' := [.loop [1, 1, 0, 1, 0], .blk 0, .code [1, 1, 1]]) (t' := [(0, .sl 34 (List.map Rule.av l) f_l), (3, .sl 34 (List.map Rule.av out) false), (4, .sc (.int .i64 (IntKind.i64.wrap (((i : Nat) : Int) + 1))))]) (h' := []) (by kernel_rfl) ?_
        refine AR.keep [0, 3, 4] (t' := [(0, .sl 34 (List.map Rule.av l) f_l), (3, .sl 34 (List.map Rule.av out) false), (4, .sc (.int .i64 (IntKind.i64.wrap (((i : Nat) : Int) + 1))))]) (by kernel_rfl) ?_
        refine AR.loop_round ?_
        rw [hw]
        exact ih (i + 1) hd2 out H
      case hf35 =>
        replace H := cond_f hb H
        refine AR.seg hG hm 5 [0, 3, 4, 5] (k' := [.code [1, 1, 0, 1, 0, 0, 1, 0, 0, 1, 1, 0, 0], .blk 2, .code [1, 1, 0, 1, 0, 0, 1, 0, 0, 1, 1, 1], .blk 1, .code [1, 1, 0, 1, 0, 0, 1, 1], .loop [1, 1, 0, 1, 0], .blk 0, .code [1, 1, 1]]) (t' := [(0, .sl 34 (List.map Rule.av l) f_l), (3, .sl 34 (List.map Rule.av out) false), (4, .sc (.int .i64 ((i : Nat) : Int))), (5, .sc (.int .i64 0))]) (h' := []) (by kernel_rfl) ?_
        obtain ⟨v, hv, H⟩ := Option.bind_eq_some_iff.1 H
        refine AR.into (by kernel_rfl) ?_
        refine podestaref04_Sort_l1_walk q1 l i out x hv_i f_l r c0 hc0 v ?_ q1 0 hv
        refine AR.seg hG hm 1 [0, 3, 4, 5] (k' := [.code [1, 1, 0, 1, 0, 0, 1, 0, 0, 1, 1, 1, 0], .code [1, 1, 0, 1, 0, 0, 1, 0, 0, 1, 1, 1, 1], .blk 1, .code [1, 1, 0, 1, 0, 0, 1, 1], .loop [1, 1, 0, 1, 0], .blk 0, .code [1, 1, 1]]) (t' := [(0, .sl 34 (List.map Rule.av l) f_l), (3, .sl 34 (List.map Rule.av out) false), (4, .sc (.int .i64 ((i : Nat) : Int))), (5, .sc (.int .i64 v))]) (h' := []) (by kernel_rfl) ?_
        refine AR.reg hm podestaref04_Sort_k2 (by kernel_rfl) ?_
        refine DK.seg hG 3 [0, 3, 4, 5, 36, 37, 38] (t' := [(0, .sl 34 (List.map Rule.av l) f_l), (3, .sl 34 (List.map Rule.av out) false), (4, .sc (.int .i64 ((i : Nat) : Int))), (5, .sc (.int .i64 v)), (36, .sl 34 (List.map Rule.av []) true), (37, .sl 34 (List.map Rule.av out) false), (38, .sc (.int .i64 v))]) (h' := []) (by kernel_rfl) rfl ?_
        obtain ⟨x1, hv, H⟩ := Option.bind_eq_some_iff.1 H
        refine DK.op' [0, 3, 4, 5, 36, 39] (t' := [(0, .sl 34 (List.map Rule.av l) f_l), (3, .sl 34 (List.map Rule.av out) false), (4, .sc (.int .i64 ((i : Nat) : Int))), (5, .sc (.int .i64 v)), (36, .sl 34 (List.map Rule.av []) true), (39, .sl 34 (List.map Rule.av x1) false)]) (h' := []) (LSpec.sliceO hG Rule.av out 34 false false (some v) none none hv rfl (by kernel_rfl)) (by kernel_rfl) rfl (by kernel_rfl) rfl ?_
        obtain ⟨hfit, H⟩ := fitO_some H
        refine DK.op' [0, 3, 4, 5, 40] (t' := [(0, .sl 34 (List.map Rule.av l) f_l), (3, .sl 34 (List.map Rule.av out) false), (4, .sc (.int .i64 ((i : Nat) : Int))), (5, .sc (.int .i64 v)), (40, .own 0 1000000)]) (h' := [.row 34 (List.map Rule.av (([] : List Rule) ++ x1)) 1000000 true]) (LSpec.appendB hG Rule.av ([] : List Rule) x1 34 272 rfl hfit (by kernel_rfl)) (by kernel_rfl) (by kernel_rfl) (by kernel_rfl) rfl ?_
        refine DK.seg hG 1 [0, 3, 4, 5, 6] (t' := [(0, .sl 34 (List.map Rule.av l) f_l), (3, .sl 34 (List.map Rule.av out) false), (4, .sc (.int .i64 ((i : Nat) : Int))), (5, .sc (.int .i64 v)), (6, .own 0 1000000)]) (h' := [.row 34 (List.map Rule.av (([] : List Rule) ++ x1)) 1000000 true]) (by kernel_rfl) rfl ?_
        refine DK.done (by kernel_rfl) (by kernel_rfl) ?_
        refine AR.seg hG hm 2 [0, 3, 4, 5, 6] (k' := [.code [1, 1, 0, 1, 0, 0, 1, 0, 0, 1, 1, 1, 1, 0, 0], .code [1, 1, 0, 1, 0, 0, 1, 0, 0, 1, 1, 1, 1, 0, 1], .code [1, 1, 0, 1, 0, 0, 1, 0, 0, 1, 1, 1, 1, 1], .blk 1, .code [1, 1, 0, 1, 0, 0, 1, 1], .loop [1, 1, 0, 1, 0], .blk 0, .code [1, 1, 1]]) (t' := [(0, .sl 34 (List.map Rule.av l) f_l), (3, .sl 34 (List.map Rule.av out) false), (4, .sc (.int .i64 ((i : Nat) : Int))), (5, .sc (.int .i64 v)), (6, .own 0 1000000)]) (h' := [.row 34 (List.map Rule.av (([] : List Rule) ++ x1)) 1000000 true]) (by kernel_rfl) ?_
        refine AR.reg hm podestaref04_Sort_k3 (by kernel_rfl) ?_
        refine DK.seg hG 4 [0, 3, 4, 5, 6, 44] (t' := [(0, .sl 34 (List.map Rule.av l) f_l), (3, .sl 34 (List.map Rule.av out) false), (4, .sc (.int .i64 ((i : Nat) : Int))), (5, .sc (.int .i64 v)), (6, .own 0 1000000), (44, .sc (.bool (decide ((((List.map Rule.av (([] : List Rule) ++ x1)).length : Nat) : Int) > 0))))]) (h' := [.row 34 (List.map Rule.av (([] : List Rule) ++ x1)) 1000000 true]) (by kernel_rfl) rfl ?_
        refine DK.split 44 (decide ((((List.map Rule.av (([] : List Rule) ++ x1)).length : Nat) : Int) > 0)) (by kernel_rfl) (fun hb => ?ht42) (fun hb => ?hf42)
        case ht42 =>
          replace H := cond_t hb H
          refine DK.seg hG 1 [0, 3, 4, 5, 6, 44, 45] (t' := [(0, .sl 34 (List.map Rule.av l) f_l), (3, .sl 34 (List.map Rule.av out) false), (4, .sc (.int .i64 ((i : Nat) : Int))), (5, .sc (.int .i64 v)), (6, .own 0 1000000), (44, .sc (.bool true)), (45, .own 0 1000000)]) (h' := [.row 34 (List.map Rule.av (([] : List Rule) ++ x1)) 1000000 true]) (by kernel_rfl) rfl ?_
          obtain ⟨x2, hv_x2, H⟩ := Option.bind_eq_some_iff.1 H
          refine DK.op' [0, 3, 4, 5, 6, 44, 46] (t' := [(0, .sl 34 (List.map Rule.av l) f_l), (3, .sl 34 (List.map Rule.av out) false), (4, .sc (.int .i64 ((i : Nat) : Int))), (5, .sc (.int .i64 v)), (6, .own 0 1000000), (44, .sc (.bool true)), (46, .el 34 0 1000000 0 0)]) (h' := [.row 34 (List.map Rule.av (([] : List Rule) ++ x1)) 1000000 true]) (LSpec.indexOwn hG (e := 34) (o := 0) (k := 1000000) (rows := List.map Rule.av (([] : List Rule) ++ x1)) (j := 0) (ixO_req hv_x2 Rule.av) (by kernel_rfl)) (by kernel_rfl) rfl (by kernel_rfl) rfl ?_
          refine DK.op' [0, 3, 4, 5, 6, 44, 47] (t' := [(0, .sl 34 (List.map Rule.av l) f_l), (3, .sl 34 (List.map Rule.av out) false), (4, .sc (.int .i64 ((i : Nat) : Int))), (5, .sc (.int .i64 v)), (6, .own 0 1000000), (44, .sc (.bool true)), (47, Rule.av x2)]) (h' := [.row 34 (List.map Rule.av (([] : List Rule) ++ x1)) 1000000 true]) (LSpec.loadEl hG (ty := 34) (rows := List.map Rule.av (([] : List Rule) ++ x1)) (j := 0) (off := 0) (r := Rule.av x2) (fs := (Rule.ch x2)) (rv := Rule.av x2) (by kernel_rfl) (ixO_map hv_x2 Rule.av).2 (by kernel_rfl) (by kernel_rfl)) (by kernel_rfl) rfl (by kernel_rfl) rfl ?_
          refine DK.seg hG 2 [0, 3, 4, 5, 6, 44, 47, 48, 49] (t' := [(0, .sl 34 (List.map Rule.av l) f_l), (3, .sl 34 (List.map Rule.av out) false), (4, .sc (.int .i64 ((i : Nat) : Int))), (5, .sc (.int .i64 v)), (6, .own 0 1000000), (44, .sc (.bool true)), (47, Rule.av x2), (48, .sl 34 (List.map Rule.av l) f_l), (49, .sc (.int .i64 ((i : Nat) : Int)))]) (h' := [.row 34 (List.map Rule.av (([] : List Rule) ++ x1)) 1000000 true]) (by kernel_rfl) rfl ?_
          refine DK.op' [0, 3, 4, 5, 6, 44, 47, 50] (t' := [(0, .sl 34 (List.map Rule.av l) f_l), (3, .sl 34 (List.map Rule.av out) false), (4, .sc (.int .i64 ((i : Nat) : Int))), (5, .sc (.int .i64 v)), (6, .own 0 1000000), (44, .sc (.bool true)), (47, Rule.av x2), (50, .ep [.arr .u64 12 x.Match.Value, .arr .u64 12 x.Match.Care, .sc (.int .i64 x.Prio), .sl 42 (List.map Act.av x.Acts) false, .sc (.int .i64 x.Idle), .sc (.int .i64 x.Hard), .sc (.int .i64 x.Owner), .sc (.int .i64 x.Hits), .sc (.int .i64 x.Quiet), .sc (.int .i64 x.Age)] 0 none)]) (h' := [.row 34 (List.map Rule.av (([] : List Rule) ++ x1)) 1000000 true]) (LSpec.index' (r := Rule.av x) (fs := [.arr .u64 12 x.Match.Value, .arr .u64 12 x.Match.Care, .sc (.int .i64 x.Prio), .sl 42 (List.map Act.av x.Acts) false, .sc (.int .i64 x.Idle), .sc (.int .i64 x.Hard), .sc (.int .i64 x.Owner), .sc (.int .i64 x.Hits), .sc (.int .i64 x.Quiet), .sc (.int .i64 x.Age)]) hG (rows := List.map Rule.av l) (j := ((i : Nat) : Int)) (by kernel_rfl) (ixO_map hv_i _) (by kernel_rfl)) (by kernel_rfl) rfl (by kernel_rfl) rfl ?_
          refine DK.seg hG 1 [0, 3, 4, 5, 6, 44, 47, 51] (t' := [(0, .sl 34 (List.map Rule.av l) f_l), (3, .sl 34 (List.map Rule.av out) false), (4, .sc (.int .i64 ((i : Nat) : Int))), (5, .sc (.int .i64 v)), (6, .own 0 1000000), (44, .sc (.bool true)), (47, Rule.av x2), (51, Rule.av x)]) (h' := [.row 34 (List.map Rule.av (([] : List Rule) ++ x1)) 1000000 true]) (by kernel_rfl) rfl ?_
          refine DK.op' [0, 3, 4, 5, 6, 44, 52] (t' := [(0, .sl 34 (List.map Rule.av l) f_l), (3, .sl 34 (List.map Rule.av out) false), (4, .sc (.int .i64 ((i : Nat) : Int))), (5, .sc (.int .i64 v)), (6, .own 0 1000000), (44, .sc (.bool true)), (52, .sc (.bool (podestaref04_Key x2 x)))]) (h' := [.row 34 (List.map Rule.av (([] : List Rule) ++ x1)) 1000000 true]) (LSpec.callP' (podestaref04_Key_calls x2 x) (by kernel_rfl)) (by kernel_rfl) rfl (by kernel_rfl) rfl ?_
          refine DK.seg hG 1 [0, 3, 4, 5, 6, 53] (t' := [(0, .sl 34 (List.map Rule.av l) f_l), (3, .sl 34 (List.map Rule.av out) false), (4, .sc (.int .i64 ((i : Nat) : Int))), (5, .sc (.int .i64 v)), (6, .own 0 1000000), (53, .sc (.bool (podestaref04_Key x2 x)))]) (h' := [.row 34 (List.map Rule.av (([] : List Rule) ++ x1)) 1000000 true]) (by kernel_rfl) rfl ?_
          refine DK.done (by kernel_rfl) (by kernel_rfl) ?_
          refine AR.cond (.tmp 53) (podestaref04_Key x2 x) (by kernel_rfl) (by kernel_rfl) (fun hb => ?ht43) (fun hb => ?hf43)
          case ht43 =>
            replace H := cond_t hb H
            refine AR.reg hm podestaref04_Sort_k4 (by kernel_rfl) ?_
            refine DK.seg hG 1 [0, 3, 4, 5, 54] (t' := [(0, .sl 34 (List.map Rule.av l) f_l), (3, .sl 34 (List.map Rule.av out) false), (4, .sc (.int .i64 ((i : Nat) : Int))), (5, .sc (.int .i64 v)), (54, .own 0 1000000)]) (h' := [.row 34 (List.map Rule.av (([] : List Rule) ++ x1)) 1000000 true]) (by kernel_rfl) rfl ?_
            obtain ⟨x3, hv, H⟩ := Option.bind_eq_some_iff.1 H
            refine DK.op' [0, 3, 4, 5, 55] (t' := [(0, .sl 34 (List.map Rule.av l) f_l), (3, .sl 34 (List.map Rule.av out) false), (4, .sc (.int .i64 ((i : Nat) : Int))), (5, .sc (.int .i64 v)), (55, .sl 34 (List.map Rule.av x3) false)]) (h' := [.row 34 (List.map Rule.av (([] : List Rule) ++ x1)) 1000000 false]) (LSpec.give [0] (by kernel_rfl) (LSpec.sliceO hG Rule.av (([] : List Rule) ++ x1) 34 false false (some 1) none none hv rfl (by kernel_rfl))) (by kernel_rfl) (by kernel_rfl) (by kernel_rfl) rfl ?_
            refine DK.seg hG 1 [0, 3, 4, 5, 6] (t' := [(0, .sl 34 (List.map Rule.av l) f_l), (3, .sl 34 (List.map Rule.av out) false), (4, .sc (.int .i64 ((i : Nat) : Int))), (5, .sc (.int .i64 v)), (6, .sl 34 (List.map Rule.av x3) false)]) (h' := [.row 34 (List.map Rule.av (([] : List Rule) ++ x1)) 1000000 false]) (by kernel_rfl) rfl ?_
            refine DK.done (by kernel_rfl) (by kernel_rfl) ?_
            refine AR.reg hm podestaref04_Sort_k5 (by kernel_rfl) ?_
            refine DK.seg hG 3 [0, 4, 6, 56, 57, 58] (t' := [(0, .sl 34 (List.map Rule.av l) f_l), (4, .sc (.int .i64 ((i : Nat) : Int))), (6, .sl 34 (List.map Rule.av x3) false), (56, .sl 34 (List.map Rule.av []) true), (57, .sl 34 (List.map Rule.av out) false), (58, .sc (.int .i64 v))]) (h' := [.row 34 (List.map Rule.av (([] : List Rule) ++ x1)) 1000000 false]) (by kernel_rfl) rfl ?_
            obtain ⟨x4, hv, H⟩ := Option.bind_eq_some_iff.1 H
            refine DK.op' [0, 4, 6, 56, 59] (t' := [(0, .sl 34 (List.map Rule.av l) f_l), (4, .sc (.int .i64 ((i : Nat) : Int))), (6, .sl 34 (List.map Rule.av x3) false), (56, .sl 34 (List.map Rule.av []) true), (59, .sl 34 (List.map Rule.av x4) false)]) (h' := [.row 34 (List.map Rule.av (([] : List Rule) ++ x1)) 1000000 false]) (LSpec.sliceO hG Rule.av out 34 false false none (some v) none hv rfl (by kernel_rfl)) (by kernel_rfl) rfl (by kernel_rfl) rfl ?_
            obtain ⟨hfit, H⟩ := fitO_some H
            refine DK.op' [0, 4, 6, 60] (t' := [(0, .sl 34 (List.map Rule.av l) f_l), (4, .sc (.int .i64 ((i : Nat) : Int))), (6, .sl 34 (List.map Rule.av x3) false), (60, .own 1 1000000)]) (h' := [.row 34 (List.map Rule.av (([] : List Rule) ++ x1)) 1000000 false, .row 34 (List.map Rule.av (([] : List Rule) ++ x4)) 1000000 true]) (LSpec.appendB hG Rule.av ([] : List Rule) x4 34 272 rfl hfit (by kernel_rfl)) (by kernel_rfl) (by kernel_rfl) (by kernel_rfl) rfl ?_
            refine DK.seg hG 2 [0, 4, 6, 60, 61, 62] (t' := [(0, .sl 34 (List.map Rule.av l) f_l), (4, .sc (.int .i64 ((i : Nat) : Int))), (6, .sl 34 (List.map Rule.av x3) false), (60, .own 1 1000000), (61, .sl 34 (List.map Rule.av l) f_l), (62, .sc (.int .i64 ((i : Nat) : Int)))]) (h' := [.row 34 (List.map Rule.av (([] : List Rule) ++ x1)) 1000000 false, .row 34 (List.map Rule.av (([] : List Rule) ++ x4)) 1000000 true]) (by kernel_rfl) rfl ?_
            refine DK.op' [0, 4, 6, 60, 63] (t' := [(0, .sl 34 (List.map Rule.av l) f_l), (4, .sc (.int .i64 ((i : Nat) : Int))), (6, .sl 34 (List.map Rule.av x3) false), (60, .own 1 1000000), (63, .ep [.arr .u64 12 x.Match.Value, .arr .u64 12 x.Match.Care, .sc (.int .i64 x.Prio), .sl 42 (List.map Act.av x.Acts) false, .sc (.int .i64 x.Idle), .sc (.int .i64 x.Hard), .sc (.int .i64 x.Owner), .sc (.int .i64 x.Hits), .sc (.int .i64 x.Quiet), .sc (.int .i64 x.Age)] 0 none)]) (h' := [.row 34 (List.map Rule.av (([] : List Rule) ++ x1)) 1000000 false, .row 34 (List.map Rule.av (([] : List Rule) ++ x4)) 1000000 true]) (LSpec.index' (r := Rule.av x) (fs := [.arr .u64 12 x.Match.Value, .arr .u64 12 x.Match.Care, .sc (.int .i64 x.Prio), .sl 42 (List.map Act.av x.Acts) false, .sc (.int .i64 x.Idle), .sc (.int .i64 x.Hard), .sc (.int .i64 x.Owner), .sc (.int .i64 x.Hits), .sc (.int .i64 x.Quiet), .sc (.int .i64 x.Age)]) hG (rows := List.map Rule.av l) (j := ((i : Nat) : Int)) (by kernel_rfl) (ixO_map hv_i _) (by kernel_rfl)) (by kernel_rfl) rfl (by kernel_rfl) rfl ?_
            refine DK.seg hG 2 [0, 4, 6, 60, 65] (t' := [(0, .sl 34 (List.map Rule.av l) f_l), (4, .sc (.int .i64 ((i : Nat) : Int))), (6, .sl 34 (List.map Rule.av x3) false), (60, .own 1 1000000), (65, .sl 34 (List.map Rule.av [x]) true)]) (h' := [.row 34 (List.map Rule.av (([] : List Rule) ++ x1)) 1000000 false, .row 34 (List.map Rule.av (([] : List Rule) ++ x4)) 1000000 true]) (by kernel_rfl) rfl ?_
            obtain ⟨hfit, H⟩ := fitO_some H
            refine DK.op' [0, 4, 6, 66] (t' := [(0, .sl 34 (List.map Rule.av l) f_l), (4, .sc (.int .i64 ((i : Nat) : Int))), (6, .sl 34 (List.map Rule.av x3) false), (66, .own 1 1000001)]) (h' := [.row 34 (List.map Rule.av (([] : List Rule) ++ x1)) 1000000 false, .row 34 (List.map Rule.av ((([] : List Rule) ++ x4) ++ [x])) 1000001 true]) (LSpec.append' hG Rule.av (([] : List Rule) ++ x4) [x] 1 1000000 34 272 hfit (by kernel_rfl)) (by kernel_rfl) (by kernel_rfl) (by kernel_rfl) rfl ?_
            refine DK.seg hG 1 [0, 4, 66, 67] (t' := [(0, .sl 34 (List.map Rule.av l) f_l), (4, .sc (.int .i64 ((i : Nat) : Int))), (66, .own 1 1000001), (67, .sl 34 (List.map Rule.av x3) false)]) (h' := [.row 34 (List.map Rule.av (([] : List Rule) ++ x1)) 1000000 false, .row 34 (List.map Rule.av ((([] : List Rule) ++ x4) ++ [x])) 1000001 true]) (by kernel_rfl) rfl ?_
            obtain ⟨hfit, H⟩ := fitO_some H
            refine DK.op' [0, 4, 68] (t' := [(0, .sl 34 (List.map Rule.av l) f_l), (4, .sc (.int .i64 ((i : Nat) : Int))), (68, .own 1 1000002)]) (h' := [.row 34 (List.map Rule.av (([] : List Rule) ++ x1)) 1000000 false, .row 34 (List.map Rule.av (((([] : List Rule) ++ x4) ++ [x]) ++ x3)) 1000002 true]) (LSpec.append' hG Rule.av ((([] : List Rule) ++ x4) ++ [x]) x3 1 1000001 34 272 hfit (by kernel_rfl)) (by kernel_rfl) (by kernel_rfl) (by kernel_rfl) rfl ?_
            refine DK.seg hG 1 [0, 3, 4] (t' := [(0, .sl 34 (List.map Rule.av l) f_l), (3, .own 1 1000002), (4, .sc (.int .i64 ((i : Nat) : Int)))]) (h' := [.row 34 (List.map Rule.av (([] : List Rule) ++ x1)) 1000000 false, .row 34 (List.map Rule.av (((([] : List Rule) ++ x4) ++ [x]) ++ x3)) 1000002 true]) (by kernel_rfl) rfl ?_
            refine DK.done (by kernel_rfl) (by kernel_rfl) ?_
            refine AR.seg hG hm 2 [0, 3, 4] (k' := [.loop [1, 1, 0, 1, 0], .blk 0, .code [1, 1, 1]]) (t' := [(0, .sl 34 (List.map Rule.av l) f_l), (3, .own 1 1000002), (4, .sc (.int .i64 (IntKind.i64.wrap (((i : Nat) : Int) + 1))))]) (h' := [.row 34 (List.map Rule.av (([] : List Rule) ++ x1)) 1000000 false, .row 34 (List.map Rule.av (((([] : List Rule) ++ x4) ++ [x]) ++ x3)) 1000002 true]) (by kernel_rfl) ?_
            refine AR.keep [0, 3, 4] (t' := [(0, .sl 34 (List.map Rule.av l) f_l), (3, .own 1 1000002), (4, .sc (.int .i64 (IntKind.i64.wrap (((i : Nat) : Int) + 1))))]) (by kernel_rfl) ?_
            refine AR.give' [1] (t' := [(0, .sl 34 (List.map Rule.av l) f_l), (3, .sl 34 (List.map Rule.av (((([] : List Rule) ++ x4) ++ [x]) ++ x3)) false), (4, .sc (.int .i64 (IntKind.i64.wrap (((i : Nat) : Int) + 1))))]) (h' := [.row 34 (List.map Rule.av (([] : List Rule) ++ x1)) 1000000 false, .row 34 (List.map Rule.av (((([] : List Rule) ++ x4) ++ [x]) ++ x3)) 1000002 false]) (by kernel_rfl) ?_
            refine AR.drop' 0 hc0 (t' := [(0, .sl 34 (List.map Rule.av l) f_l), (3, .sl 34 (List.map Rule.av (((([] : List Rule) ++ x4) ++ [x]) ++ x3)) false), (4, .sc (.int .i64 (IntKind.i64.wrap (((i : Nat) : Int) + 1))))]) (h' := []) (by kernel_rfl) ?_
            refine AR.loop_round ?_
            rw [hw]
            exact ih (i + 1) hd2 (((([] : List Rule) ++ x4) ++ [x]) ++ x3) H
          case hf43 =>
            replace H := cond_f hb H
            refine AR.seg hG hm 1 [0, 3, 4, 5, 6] (k' := [.code [1, 1, 0, 1, 0, 0, 1, 0, 0, 1, 1, 1, 1, 1], .blk 1, .code [1, 1, 0, 1, 0, 0, 1, 1], .loop [1, 1, 0, 1, 0], .blk 0, .code [1, 1, 1]]) (t' := [(0, .sl 34 (List.map Rule.av l) f_l), (3, .sl 34 (List.map Rule.av out) false), (4, .sc (.int .i64 ((i : Nat) : Int))), (5, .sc (.int .i64 v)), (6, .own 0 1000000)]) (h' := [.row 34 (List.map Rule.av (([] : List Rule) ++ x1)) 1000000 true]) (by kernel_rfl) ?_
            refine AR.reg hm podestaref04_Sort_k6 (by kernel_rfl) ?_
            refine DK.seg hG 3 [0, 4, 6, 56, 57, 58] (t' := [(0, .sl 34 (List.map Rule.av l) f_l), (4, .sc (.int .i64 ((i : Nat) : Int))), (6, .own 0 1000000), (56, .sl 34 (List.map Rule.av []) true), (57, .sl 34 (List.map Rule.av out) false), (58, .sc (.int .i64 v))]) (h' := [.row 34 (List.map Rule.av (([] : List Rule) ++ x1)) 1000000 true]) (by kernel_rfl) rfl ?_
            obtain ⟨x5, hv, H⟩ := Option.bind_eq_some_iff.1 H
            refine DK.op' [0, 4, 6, 56, 59] (t' := [(0, .sl 34 (List.map Rule.av l) f_l), (4, .sc (.int .i64 ((i : Nat) : Int))), (6, .own 0 1000000), (56, .sl 34 (List.map Rule.av []) true), (59, .sl 34 (List.map Rule.av x5) false)]) (h' := [.row 34 (List.map Rule.av (([] : List Rule) ++ x1)) 1000000 true]) (LSpec.sliceO hG Rule.av out 34 false false none (some v) none hv rfl (by kernel_rfl)) (by kernel_rfl) rfl (by kernel_rfl) rfl ?_
            obtain ⟨hfit, H⟩ := fitO_some H
            refine DK.op' [0, 4, 6, 60] (t' := [(0, .sl 34 (List.map Rule.av l) f_l), (4, .sc (.int .i64 ((i : Nat) : Int))), (6, .own 0 1000000), (60, .own 1 1000000)]) (h' := [.row 34 (List.map Rule.av (([] : List Rule) ++ x1)) 1000000 true, .row 34 (List.map Rule.av (([] : List Rule) ++ x5)) 1000000 true]) (LSpec.appendB hG Rule.av ([] : List Rule) x5 34 272 rfl hfit (by kernel_rfl)) (by kernel_rfl) (by kernel_rfl) (by kernel_rfl) rfl ?_
            refine DK.seg hG 2 [0, 4, 6, 60, 61, 62] (t' := [(0, .sl 34 (List.map Rule.av l) f_l), (4, .sc (.int .i64 ((i : Nat) : Int))), (6, .own 0 1000000), (60, .own 1 1000000), (61, .sl 34 (List.map Rule.av l) f_l), (62, .sc (.int .i64 ((i : Nat) : Int)))]) (h' := [.row 34 (List.map Rule.av (([] : List Rule) ++ x1)) 1000000 true, .row 34 (List.map Rule.av (([] : List Rule) ++ x5)) 1000000 true]) (by kernel_rfl) rfl ?_
            refine DK.op' [0, 4, 6, 60, 63] (t' := [(0, .sl 34 (List.map Rule.av l) f_l), (4, .sc (.int .i64 ((i : Nat) : Int))), (6, .own 0 1000000), (60, .own 1 1000000), (63, .ep [.arr .u64 12 x.Match.Value, .arr .u64 12 x.Match.Care, .sc (.int .i64 x.Prio), .sl 42 (List.map Act.av x.Acts) false, .sc (.int .i64 x.Idle), .sc (.int .i64 x.Hard), .sc (.int .i64 x.Owner), .sc (.int .i64 x.Hits), .sc (.int .i64 x.Quiet), .sc (.int .i64 x.Age)] 0 none)]) (h' := [.row 34 (List.map Rule.av (([] : List Rule) ++ x1)) 1000000 true, .row 34 (List.map Rule.av (([] : List Rule) ++ x5)) 1000000 true]) (LSpec.index' (r := Rule.av x) (fs := [.arr .u64 12 x.Match.Value, .arr .u64 12 x.Match.Care, .sc (.int .i64 x.Prio), .sl 42 (List.map Act.av x.Acts) false, .sc (.int .i64 x.Idle), .sc (.int .i64 x.Hard), .sc (.int .i64 x.Owner), .sc (.int .i64 x.Hits), .sc (.int .i64 x.Quiet), .sc (.int .i64 x.Age)]) hG (rows := List.map Rule.av l) (j := ((i : Nat) : Int)) (by kernel_rfl) (ixO_map hv_i _) (by kernel_rfl)) (by kernel_rfl) rfl (by kernel_rfl) rfl ?_
            refine DK.seg hG 2 [0, 4, 6, 60, 65] (t' := [(0, .sl 34 (List.map Rule.av l) f_l), (4, .sc (.int .i64 ((i : Nat) : Int))), (6, .own 0 1000000), (60, .own 1 1000000), (65, .sl 34 (List.map Rule.av [x]) true)]) (h' := [.row 34 (List.map Rule.av (([] : List Rule) ++ x1)) 1000000 true, .row 34 (List.map Rule.av (([] : List Rule) ++ x5)) 1000000 true]) (by kernel_rfl) rfl ?_
            obtain ⟨hfit, H⟩ := fitO_some H
            refine DK.op' [0, 4, 6, 66] (t' := [(0, .sl 34 (List.map Rule.av l) f_l), (4, .sc (.int .i64 ((i : Nat) : Int))), (6, .own 0 1000000), (66, .own 1 1000001)]) (h' := [.row 34 (List.map Rule.av (([] : List Rule) ++ x1)) 1000000 true, .row 34 (List.map Rule.av ((([] : List Rule) ++ x5) ++ [x])) 1000001 true]) (LSpec.append' hG Rule.av (([] : List Rule) ++ x5) [x] 1 1000000 34 272 hfit (by kernel_rfl)) (by kernel_rfl) (by kernel_rfl) (by kernel_rfl) rfl ?_
            refine DK.seg hG 1 [0, 4, 66, 67] (t' := [(0, .sl 34 (List.map Rule.av l) f_l), (4, .sc (.int .i64 ((i : Nat) : Int))), (66, .own 1 1000001), (67, .own 0 1000000)]) (h' := [.row 34 (List.map Rule.av (([] : List Rule) ++ x1)) 1000000 true, .row 34 (List.map Rule.av ((([] : List Rule) ++ x5) ++ [x])) 1000001 true]) (by kernel_rfl) rfl ?_
            obtain ⟨hfit, H⟩ := fitO_some H
            refine DK.op' [0, 4, 68] (t' := [(0, .sl 34 (List.map Rule.av l) f_l), (4, .sc (.int .i64 ((i : Nat) : Int))), (68, .own 1 1000002)]) (h' := [.row 34 (List.map Rule.av (([] : List Rule) ++ x1)) 1000000 true, .row 34 (List.map Rule.av (((([] : List Rule) ++ x5) ++ [x]) ++ (([] : List Rule) ++ x1))) 1000002 true]) (LSpec.append' hG Rule.av ((([] : List Rule) ++ x5) ++ [x]) (([] : List Rule) ++ x1) 1 1000001 34 272 hfit (by kernel_rfl)) (by kernel_rfl) (by kernel_rfl) (by kernel_rfl) rfl ?_
            refine DK.seg hG 1 [0, 3, 4] (t' := [(0, .sl 34 (List.map Rule.av l) f_l), (3, .own 1 1000002), (4, .sc (.int .i64 ((i : Nat) : Int)))]) (h' := [.row 34 (List.map Rule.av (([] : List Rule) ++ x1)) 1000000 true, .row 34 (List.map Rule.av (((([] : List Rule) ++ x5) ++ [x]) ++ (([] : List Rule) ++ x1))) 1000002 true]) (by kernel_rfl) rfl ?_
            refine DK.done (by kernel_rfl) (by kernel_rfl) ?_
            refine AR.seg hG hm 2 [0, 3, 4] (k' := [.loop [1, 1, 0, 1, 0], .blk 0, .code [1, 1, 1]]) (t' := [(0, .sl 34 (List.map Rule.av l) f_l), (3, .own 1 1000002), (4, .sc (.int .i64 (IntKind.i64.wrap (((i : Nat) : Int) + 1))))]) (h' := [.row 34 (List.map Rule.av (([] : List Rule) ++ x1)) 1000000 true, .row 34 (List.map Rule.av (((([] : List Rule) ++ x5) ++ [x]) ++ (([] : List Rule) ++ x1))) 1000002 true]) (by kernel_rfl) ?_
            refine AR.keep [0, 3, 4] (t' := [(0, .sl 34 (List.map Rule.av l) f_l), (3, .own 1 1000002), (4, .sc (.int .i64 (IntKind.i64.wrap (((i : Nat) : Int) + 1))))]) (by kernel_rfl) ?_
            refine AR.give' [1] (t' := [(0, .sl 34 (List.map Rule.av l) f_l), (3, .sl 34 (List.map Rule.av (((([] : List Rule) ++ x5) ++ [x]) ++ (([] : List Rule) ++ x1))) false), (4, .sc (.int .i64 (IntKind.i64.wrap (((i : Nat) : Int) + 1))))]) (h' := [.row 34 (List.map Rule.av (([] : List Rule) ++ x1)) 1000000 true, .row 34 (List.map Rule.av (((([] : List Rule) ++ x5) ++ [x]) ++ (([] : List Rule) ++ x1))) 1000002 false]) (by kernel_rfl) ?_
            refine AR.drop' 0 hc0 (t' := [(0, .sl 34 (List.map Rule.av l) f_l), (3, .sl 34 (List.map Rule.av (((([] : List Rule) ++ x5) ++ [x]) ++ (([] : List Rule) ++ x1))) false), (4, .sc (.int .i64 (IntKind.i64.wrap (((i : Nat) : Int) + 1))))]) (h' := []) (by kernel_rfl) ?_
            refine AR.loop_round ?_
            rw [hw]
            exact ih (i + 1) hd2 (((([] : List Rule) ++ x5) ++ [x]) ++ (([] : List Rule) ++ x1)) H
        case hf42 =>
          replace H := cond_f hb H
          refine DK.seg hG 9 [0, 3, 4, 5, 6, 53] (t' := [(0, .sl 34 (List.map Rule.av l) f_l), (3, .sl 34 (List.map Rule.av out) false), (4, .sc (.int .i64 ((i : Nat) : Int))), (5, .sc (.int .i64 v)), (6, .own 0 1000000), (53, .sc (.bool false))]) (h' := [.row 34 (List.map Rule.av (([] : List Rule) ++ x1)) 1000000 true]) (by kernel_rfl) rfl ?_
          refine DK.done (by kernel_rfl) (by kernel_rfl) ?_
          refine AR.seg hG hm 2 [0, 3, 4, 5, 6] (k' := [.code [1, 1, 0, 1, 0, 0, 1, 0, 0, 1, 1, 1, 1, 1], .blk 1, .code [1, 1, 0, 1, 0, 0, 1, 1], .loop [1, 1, 0, 1, 0], .blk 0, .code [1, 1, 1]]) (t' := [(0, .sl 34 (List.map Rule.av l) f_l), (3, .sl 34 (List.map Rule.av out) false), (4, .sc (.int .i64 ((i : Nat) : Int))), (5, .sc (.int .i64 v)), (6, .own 0 1000000)]) (h' := [.row 34 (List.map Rule.av (([] : List Rule) ++ x1)) 1000000 true]) (by kernel_rfl) ?_
          refine AR.reg hm podestaref04_Sort_k7 (by kernel_rfl) ?_
          refine DK.seg hG 3 [0, 4, 6, 56, 57, 58] (t' := [(0, .sl 34 (List.map Rule.av l) f_l), (4, .sc (.int .i64 ((i : Nat) : Int))), (6, .own 0 1000000), (56, .sl 34 (List.map Rule.av []) true), (57, .sl 34 (List.map Rule.av out) false), (58, .sc (.int .i64 v))]) (h' := [.row 34 (List.map Rule.av (([] : List Rule) ++ x1)) 1000000 true]) (by kernel_rfl) rfl ?_
          obtain ⟨x6, hv, H⟩ := Option.bind_eq_some_iff.1 H
          refine DK.op' [0, 4, 6, 56, 59] (t' := [(0, .sl 34 (List.map Rule.av l) f_l), (4, .sc (.int .i64 ((i : Nat) : Int))), (6, .own 0 1000000), (56, .sl 34 (List.map Rule.av []) true), (59, .sl 34 (List.map Rule.av x6) false)]) (h' := [.row 34 (List.map Rule.av (([] : List Rule) ++ x1)) 1000000 true]) (LSpec.sliceO hG Rule.av out 34 false false none (some v) none hv rfl (by kernel_rfl)) (by kernel_rfl) rfl (by kernel_rfl) rfl ?_
          obtain ⟨hfit, H⟩ := fitO_some H
          refine DK.op' [0, 4, 6, 60] (t' := [(0, .sl 34 (List.map Rule.av l) f_l), (4, .sc (.int .i64 ((i : Nat) : Int))), (6, .own 0 1000000), (60, .own 1 1000000)]) (h' := [.row 34 (List.map Rule.av (([] : List Rule) ++ x1)) 1000000 true, .row 34 (List.map Rule.av (([] : List Rule) ++ x6)) 1000000 true]) (LSpec.appendB hG Rule.av ([] : List Rule) x6 34 272 rfl hfit (by kernel_rfl)) (by kernel_rfl) (by kernel_rfl) (by kernel_rfl) rfl ?_
          refine DK.seg hG 2 [0, 4, 6, 60, 61, 62] (t' := [(0, .sl 34 (List.map Rule.av l) f_l), (4, .sc (.int .i64 ((i : Nat) : Int))), (6, .own 0 1000000), (60, .own 1 1000000), (61, .sl 34 (List.map Rule.av l) f_l), (62, .sc (.int .i64 ((i : Nat) : Int)))]) (h' := [.row 34 (List.map Rule.av (([] : List Rule) ++ x1)) 1000000 true, .row 34 (List.map Rule.av (([] : List Rule) ++ x6)) 1000000 true]) (by kernel_rfl) rfl ?_
          refine DK.op' [0, 4, 6, 60, 63] (t' := [(0, .sl 34 (List.map Rule.av l) f_l), (4, .sc (.int .i64 ((i : Nat) : Int))), (6, .own 0 1000000), (60, .own 1 1000000), (63, .ep [.arr .u64 12 x.Match.Value, .arr .u64 12 x.Match.Care, .sc (.int .i64 x.Prio), .sl 42 (List.map Act.av x.Acts) false, .sc (.int .i64 x.Idle), .sc (.int .i64 x.Hard), .sc (.int .i64 x.Owner), .sc (.int .i64 x.Hits), .sc (.int .i64 x.Quiet), .sc (.int .i64 x.Age)] 0 none)]) (h' := [.row 34 (List.map Rule.av (([] : List Rule) ++ x1)) 1000000 true, .row 34 (List.map Rule.av (([] : List Rule) ++ x6)) 1000000 true]) (LSpec.index' (r := Rule.av x) (fs := [.arr .u64 12 x.Match.Value, .arr .u64 12 x.Match.Care, .sc (.int .i64 x.Prio), .sl 42 (List.map Act.av x.Acts) false, .sc (.int .i64 x.Idle), .sc (.int .i64 x.Hard), .sc (.int .i64 x.Owner), .sc (.int .i64 x.Hits), .sc (.int .i64 x.Quiet), .sc (.int .i64 x.Age)]) hG (rows := List.map Rule.av l) (j := ((i : Nat) : Int)) (by kernel_rfl) (ixO_map hv_i _) (by kernel_rfl)) (by kernel_rfl) rfl (by kernel_rfl) rfl ?_
          refine DK.seg hG 2 [0, 4, 6, 60, 65] (t' := [(0, .sl 34 (List.map Rule.av l) f_l), (4, .sc (.int .i64 ((i : Nat) : Int))), (6, .own 0 1000000), (60, .own 1 1000000), (65, .sl 34 (List.map Rule.av [x]) true)]) (h' := [.row 34 (List.map Rule.av (([] : List Rule) ++ x1)) 1000000 true, .row 34 (List.map Rule.av (([] : List Rule) ++ x6)) 1000000 true]) (by kernel_rfl) rfl ?_
          obtain ⟨hfit, H⟩ := fitO_some H
          refine DK.op' [0, 4, 6, 66] (t' := [(0, .sl 34 (List.map Rule.av l) f_l), (4, .sc (.int .i64 ((i : Nat) : Int))), (6, .own 0 1000000), (66, .own 1 1000001)]) (h' := [.row 34 (List.map Rule.av (([] : List Rule) ++ x1)) 1000000 true, .row 34 (List.map Rule.av ((([] : List Rule) ++ x6) ++ [x])) 1000001 true]) (LSpec.append' hG Rule.av (([] : List Rule) ++ x6) [x] 1 1000000 34 272 hfit (by kernel_rfl)) (by kernel_rfl) (by kernel_rfl) (by kernel_rfl) rfl ?_
          refine DK.seg hG 1 [0, 4, 66, 67] (t' := [(0, .sl 34 (List.map Rule.av l) f_l), (4, .sc (.int .i64 ((i : Nat) : Int))), (66, .own 1 1000001), (67, .own 0 1000000)]) (h' := [.row 34 (List.map Rule.av (([] : List Rule) ++ x1)) 1000000 true, .row 34 (List.map Rule.av ((([] : List Rule) ++ x6) ++ [x])) 1000001 true]) (by kernel_rfl) rfl ?_
          obtain ⟨hfit, H⟩ := fitO_some H
          refine DK.op' [0, 4, 68] (t' := [(0, .sl 34 (List.map Rule.av l) f_l), (4, .sc (.int .i64 ((i : Nat) : Int))), (68, .own 1 1000002)]) (h' := [.row 34 (List.map Rule.av (([] : List Rule) ++ x1)) 1000000 true, .row 34 (List.map Rule.av (((([] : List Rule) ++ x6) ++ [x]) ++ (([] : List Rule) ++ x1))) 1000002 true]) (LSpec.append' hG Rule.av ((([] : List Rule) ++ x6) ++ [x]) (([] : List Rule) ++ x1) 1 1000001 34 272 hfit (by kernel_rfl)) (by kernel_rfl) (by kernel_rfl) (by kernel_rfl) rfl ?_
          refine DK.seg hG 1 [0, 3, 4] (t' := [(0, .sl 34 (List.map Rule.av l) f_l), (3, .own 1 1000002), (4, .sc (.int .i64 ((i : Nat) : Int)))]) (h' := [.row 34 (List.map Rule.av (([] : List Rule) ++ x1)) 1000000 true, .row 34 (List.map Rule.av (((([] : List Rule) ++ x6) ++ [x]) ++ (([] : List Rule) ++ x1))) 1000002 true]) (by kernel_rfl) rfl ?_
          refine DK.done (by kernel_rfl) (by kernel_rfl) ?_
          refine AR.seg hG hm 2 [0, 3, 4] (k' := [.loop [1, 1, 0, 1, 0], .blk 0, .code [1, 1, 1]]) (t' := [(0, .sl 34 (List.map Rule.av l) f_l), (3, .own 1 1000002), (4, .sc (.int .i64 (IntKind.i64.wrap (((i : Nat) : Int) + 1))))]) (h' := [.row 34 (List.map Rule.av (([] : List Rule) ++ x1)) 1000000 true, .row 34 (List.map Rule.av (((([] : List Rule) ++ x6) ++ [x]) ++ (([] : List Rule) ++ x1))) 1000002 true]) (by kernel_rfl) ?_
          refine AR.keep [0, 3, 4] (t' := [(0, .sl 34 (List.map Rule.av l) f_l), (3, .own 1 1000002), (4, .sc (.int .i64 (IntKind.i64.wrap (((i : Nat) : Int) + 1))))]) (by kernel_rfl) ?_
          refine AR.give' [1] (t' := [(0, .sl 34 (List.map Rule.av l) f_l), (3, .sl 34 (List.map Rule.av (((([] : List Rule) ++ x6) ++ [x]) ++ (([] : List Rule) ++ x1))) false), (4, .sc (.int .i64 (IntKind.i64.wrap (((i : Nat) : Int) + 1))))]) (h' := [.row 34 (List.map Rule.av (([] : List Rule) ++ x1)) 1000000 true, .row 34 (List.map Rule.av (((([] : List Rule) ++ x6) ++ [x]) ++ (([] : List Rule) ++ x1))) 1000002 false]) (by kernel_rfl) ?_
          refine AR.drop' 0 hc0 (t' := [(0, .sl 34 (List.map Rule.av l) f_l), (3, .sl 34 (List.map Rule.av (((([] : List Rule) ++ x6) ++ [x]) ++ (([] : List Rule) ++ x1))) false), (4, .sc (.int .i64 (IntKind.i64.wrap (((i : Nat) : Int) + 1))))]) (h' := []) (by kernel_rfl) ?_
          refine AR.loop_round ?_
          rw [hw]
          exact ih (i + 1) hd2 (((([] : List Rule) ++ x6) ++ [x]) ++ (([] : List Rule) ++ x1)) H
    case hf34 => exact absurd (hc.symm.trans hb) (by decide)

def podestaref04_Sort_raw (q1 : Nat) (l : List Rule) : Option ((List Rule)) :=
  (podestaref04_Sort_l0s q1 l ([] : List Rule)).bind fun v =>
  some v
theorem podestaref04_Sort_walk (q1 : Nat) (l : List Rule) (f_l : Bool) (r : (List Rule)) (H : podestaref04_Sort_raw q1 l = some r) :
    ACalls Try.prog tab.S 28 [.sl 34 (List.map Rule.av l) f_l] [] (.sl 34 (List.map Rule.av r) false) [] := by
  have hG := tab_ok
  have hm := mixed
  refine ACalls.of_AR (G := tab) podestaref04_Sort_F (fn := Try.f28) Try.func28 (by kernel_rfl) (by kernel_rfl) (by kernel_rfl) (Nat.le_of_ble_eq_true (by kernel_rfl)) ?_
  intro c0 hc0
  replace hc0 : c0.m.length = 0 := hc0
  rw [podestaref04_Sort_raw] at H
  refine AR.seg hG hm 8 [0, 3, 4] (k' := [.code [1, 1, 0, 1, 0], .blk 0, .code [1, 1, 1]]) (t' := [(0, .sl 34 (List.map Rule.av l) f_l), (3, .sl 0 [] true), (4, .sc (.int .i64 0))]) (h' := []) (by kernel_rfl) ?_
  refine AR.wk 3 (.sl 34 (List.map Rule.av ([] : List Rule)) false) rfl (WkV.sl (Wk1.nil 34 false)) (t' := [(3, .sl 34 (List.map Rule.av ([] : List Rule)) false), (0, .sl 34 (List.map Rule.av l) f_l), (4, .sc (.int .i64 0))]) (by kernel_rfl) ?_
  refine AR.keep [0, 3, 4] (t' := [(0, .sl 34 (List.map Rule.av l) f_l), (3, .sl 34 (List.map Rule.av ([] : List Rule)) false), (4, .sc (.int .i64 0))]) (by kernel_rfl) ?_
  obtain ⟨v, hv, H⟩ := Option.bind_eq_some_iff.1 H
  refine AR.into (by kernel_rfl) ?_
  refine podestaref04_Sort_l0_walk q1 l f_l r c0 hc0 v ?_ l 0 rfl ([] : List Rule) hv
  refine AR.seg hG hm 2 [2] (k' := [.code [1, 1, 1, 1]]) (t' := [(2, .sl 34 (List.map Rule.av v) false)]) (h' := []) (by kernel_rfl) ?_
  obtain rfl := Option.some.inj H
  exact AR.ret0 (fn := Try.f28) hG Try.func28 (by kernel_rfl) hc0 (r0 := .sl 34 (List.map Rule.av v) false) (by kernel_rfl) (WkV.refl _)

def refPut (out : List Rule) (x : Rule) : List Rule :=
  bif !(podestaref04_Rule x) then out else
  out.takeWhile (fun y => podestaref04_Before y x) ++ x :: (match out.dropWhile (fun y => podestaref04_Before y x) with | [] => [] | y :: r => bif podestaref04_Key y x then r else y :: r)
theorem tw_len {α : Type} (p : α → Bool) (l : List α) : l.take (l.takeWhile p).length = l.takeWhile p ∧ l.drop (l.takeWhile p).length = l.dropWhile p := by
  have h := List.takeWhile_append_dropWhile (p := p) (l := l)
  constructor
  · conv => lhs; rw [← h]
    rw [List.take_left' (by rw [h])]
  · conv => lhs; rw [← h]
    rw [List.drop_left' (by rw [h])]
theorem refSort_l1_eq (out : List Rule) (x : Rule) (ho : out.length ≤ 1000000) : ∀ (m k : Nat), k ≤ out.length → out.length - k < m → podestaref04_Sort_l1 out x m (k : Int) = some ((k + ((out.drop k).takeWhile (fun y => podestaref04_Before y x)).length : Nat) : Int)
  | 0, k, _, h => absurd h (by omega)
  | m + 1, k, h1, h2 => by
      rw [podestaref04_Sort_l1, List.length_map]
      by_cases hk : k < out.length
      · rw [decide_eq_true (by omega), cond_true, ixO_lt hk, Option.bind_some, List.drop_eq_getElem_cons hk, List.takeWhile_cons, wrap_succ (by omega), refSort_l1_eq out x ho m (k + 1) (by omega) (by omega)]
        cases podestaref04_Before out[k] x
        · rfl
        · simp only [cond_true, if_true, List.length_cons]
          congr 1; omega
      · rw [decide_eq_false (by omega), cond_false, List.drop_eq_nil_of_le (by omega)]; rfl
theorem sliceO_from {α : Type} (A : List α) {n : Nat} (h : n ≤ A.length) : sliceO A (some ((n : Nat) : Int)) none none = some (A.drop n) := by
  unfold sliceO
  simp only [Option.getD_some, Option.getD_none]
  split
  · simp only [Int.toNat_natCast]
    rw [List.take_of_length_le (by rw [List.length_drop]; omega)]
  · rename_i hc
    exact absurd ⟨by omega, by omega, by omega, Or.inl trivial⟩ hc
theorem sliceO_to {α : Type} (A : List α) {n : Nat} (h : n ≤ A.length) : sliceO A none (some ((n : Nat) : Int)) none = some (A.take n) := by
  unfold sliceO
  simp only [Option.getD_some, Option.getD_none]
  split
  · simp
  · rename_i hc
    exact absurd ⟨by omega, by omega, by omega, Or.inl trivial⟩ hc
theorem refPut_len (out : List Rule) (x : Rule) : (refPut out x).length ≤ out.length + 1 := by
  have h := congrArg List.length (List.takeWhile_append_dropWhile (p := fun y => podestaref04_Before y x) (l := out))
  rw [List.length_append] at h
  unfold refPut
  cases podestaref04_Rule x
  · simp only [Bool.not_false, cond_true]; omega
  · simp only [Bool.not_true, cond_false, List.length_append, List.length_cons]
    cases hd : out.dropWhile (fun y => podestaref04_Before y x) with
    | nil => rw [hd] at h; simp only [List.length_nil] at h ⊢; omega
    | cons y r =>
      rw [hd] at h
      rw [List.length_cons] at h
      cases hk : podestaref04_Key y x
      · simp only [hk, cond_false, List.length_cons]; omega
      · simp only [hk, cond_true]; omega
theorem refSort_l0s_eq (q : Nat) : ∀ (l out : List Rule), out.length + l.length < q → q ≤ 100000 → podestaref04_Sort_l0s q l out = some (l.foldl refPut out)
  | [], out, _, _ => by rw [podestaref04_Sort_l0s]; rfl
  | x :: l, out, h, hq => by
      rw [List.length_cons] at h
      have hp := refPut_len out x
      have ih := refSort_l0s_eq q l (refPut out x) (by omega) hq
      rw [podestaref04_Sort_l0s, List.foldl_cons, ← ih]
      obtain ⟨t1, t2⟩ := tw_len (fun y => podestaref04_Before y x) out
      have hl1 := refSort_l1_eq out x (by omega) q 0 (by omega) (by omega)
      rw [List.drop_zero, Nat.zero_add, show ((0 : Nat) : Int) = 0 from rfl] at hl1
      have hn : (out.takeWhile (fun y => podestaref04_Before y x)).length ≤ out.length := (List.takeWhile_sublist _).length_le
      have hdl : (out.dropWhile (fun y => podestaref04_Before y x)).length ≤ out.length := (List.dropWhile_sublist _).length_le
      cases hr : podestaref04_Rule x
      · simp only [Bool.not_false, cond_true]
        unfold refPut
        rw [hr]; rfl
      · simp only [Bool.not_true, cond_false]
        have hput : refPut out x = out.takeWhile (fun y => podestaref04_Before y x) ++ x :: (match out.dropWhile (fun y => podestaref04_Before y x) with | [] => [] | y :: r => bif podestaref04_Key y x then r else y :: r) := by
          unfold refPut; rw [hr]; rfl
        rw [hput, hl1, Option.bind_some, sliceO_from out hn, Option.bind_some, sliceO_to out hn, t1, t2]
        simp only [nil_app, List.length_map, Option.bind_some, List.length_nil, Nat.zero_add]
        rw [fitO_eq (by omega)]
        generalize out.takeWhile (fun y => podestaref04_Before y x) = A at *
        generalize out.dropWhile (fun y => podestaref04_Before y x) = B at *
        cases B with
        | nil =>
          simp only [List.length_nil]
          rw [show decide (((0 : Nat) : Int) > 0) = false from rfl, cond_false, fitO_eq (by omega), fitO_eq (by rw [List.length_cons, List.length_nil]; omega), fitO_eq (by rw [List.length_append, List.length_cons, List.length_nil]; omega), List.append_assoc]
          rfl
        | cons y r =>
          rw [List.length_cons] at hdl
          rw [decide_eq_true (show (((y :: r).length : Nat) : Int) > 0 by rw [List.length_cons]; omega), cond_true]
          rw [show ixO (y :: r) 0 = some y from rfl, Option.bind_some]
          rw [show sliceO (y :: r) (some 1) none none = some r by rw [show (1 : Int) = ((1 : Nat) : Int) from rfl, sliceO_from (y :: r) (by rw [List.length_cons]; omega)]; rfl, Option.bind_some]
          show _ = podestaref04_Sort_l0s q l (A ++ x :: (bif podestaref04_Key y x then r else y :: r))
          cases podestaref04_Key y x
          · rw [cond_false, cond_false, fitO_eq (by omega), fitO_eq (by rw [List.length_cons, List.length_nil]; omega), fitO_eq (by rw [List.length_append, List.length_cons, List.length_nil, List.length_cons]; omega), List.append_assoc]
            rfl
          · rw [cond_true, cond_true, fitO_eq (by omega), fitO_eq (by rw [List.length_cons, List.length_nil]; omega), fitO_eq (by rw [List.length_append, List.length_cons, List.length_nil]; omega), List.append_assoc]
            rfl
def refSortO (l : List Rule) : Option (List Rule) := if l.length ≤ 10000 then some (l.foldl refPut []) else none
theorem podestaref04_Sort_ok (l : List Rule) (f : Bool) (x : List Rule) (h : refSortO l = some x) : ACalls Try.prog tab.S 28 [.sl 34 (List.map Rule.av l) f] [] (.sl 34 (List.map Rule.av x) false) [] := by
  unfold refSortO at h
  split at h
  · rename_i hl
    refine podestaref04_Sort_walk (l.length + 1) l f x ?_
    rw [podestaref04_Sort_raw, refSort_l0s_eq (l.length + 1) l [] (by rw [List.length_nil]; omega) (by omega)]
    exact h
  · cases h
theorem refKey_eq (a b : Rule) : podestaref04_Key a b = decide (a.key = b.key) := by rw [← Key_key]; rfl
theorem refPut_eq {out : List Rule} {x : Rule} (hs : Srt out) (w : ∀ y ∈ out, Rule.wf y) (wx : Rule.wf x) : refPut out x = putR out x := by
  have hb : ∀ y ∈ out, (podestaref04_Before y x = true ↔ RLt y x) := fun y hy => by
    rw [refBefore_eq (w y hy) wx, Before_key, decide_eq_true_eq]; rfl
  unfold refPut
  rw [← rule_Sound_eq wx]
  cases hS : rule_Sound x
  · rw [putR_not hS]; rfl
  · simp only [Bool.not_true, cond_false]
    obtain ⟨A, mid, B, e1, e2, e3, e4, e5⟩ := putR_split hs hS
    rw [e2]
    subst e1
    have hA : ∀ a ∈ A, podestaref04_Before a x = true := fun a ha => (hb a (by simp [ha])).2 (e3 a ha)
    rw [List.takeWhile_append_of_pos hA, List.dropWhile_append_of_pos hA]
    obtain ⟨p1, p2, p3⟩ := List.pairwise_append.1 hs
    cases mid with
    | nil =>
      cases B with
      | nil => simp
      | cons b B =>
        have hf : podestaref04_Before b x = false := by
          rw [Bool.eq_false_iff]
          intro q
          exact RLt.asymm (e4 b (by simp)) ((hb b (by simp)).1 q)
        have hk : podestaref04_Key b x = false := by
          rw [refKey_eq, decide_eq_false_iff_not]
          intro q
          exact RLt.irr x b q.symm (e4 b (by simp))
        simp [List.takeWhile_cons, List.dropWhile_cons, hf, hk]
    | cons y mid =>
      have hy := e5 y (by simp)
      have hf : podestaref04_Before y x = false := by
        rw [Bool.eq_false_iff]
        intro q
        exact RLt.irr y x hy ((hb y (by simp)).1 q)
      have hk : podestaref04_Key y x = true := by rw [refKey_eq, decide_eq_true_eq]; exact hy
      have hm : mid = [] := by
        cases mid with
        | nil => rfl
        | cons z mid =>
          have h1 : RLt y z := (List.pairwise_cons.1 p2).1 z (by simp)
          exact absurd h1 (RLt.irr y z (hy.trans (e5 z (by simp)).symm))
      subst hm
      simp [List.takeWhile_cons, List.dropWhile_cons, hf, hk]
theorem refSort_fold : ∀ (l out : List Rule), Srt out → (∀ y ∈ out, Rule.wf y) → (∀ y ∈ l, Rule.wf y) → l.foldl refPut out = l.foldl putR out
  | [], _, _, _, _ => rfl
  | x :: l, out, hs, w, wl => by
      rw [List.foldl_cons, List.foldl_cons, refPut_eq hs w (wl x (by simp))]
      exact refSort_fold l (putR out x) (putR_srt hs x) (fun y hy => by
        rcases putR_mem hs hy with q | ⟨q, _⟩
        · exact w y q
        · rw [q]; exact wl x (by simp)) (fun y hy => wl y (by simp [hy]))
theorem refSortO_eq {l : List Rule} (w : ∀ y ∈ l, Rule.wf y) (h : l.length ≤ 10000) : refSortO l = some (sortR l) := by
  unfold refSortO sortR
  rw [if_pos h, refSort_fold l [] List.Pairwise.nil (by simp) w]

end Go.Proofs.Ytadolbhmdimbkaa

set_option linter.unusedVariables false
set_option linter.unusedSimpArgs false
set_option maxRecDepth 100000
set_option maxHeartbeats 4000000
namespace Go.Proofs.Ytadolbhmdimbkaa
open Go.Sh
/-! ### podestalaw05.RuleTables: function 9 -/
noncomputable def podestalaw05_RuleTables_F : Go.Sh.Fn := ⟨9, bodyOf Try.f9, 41⟩
def podestalaw05_RuleTables_k0 : List Kd := [.pure, .pure]
def podestalaw05_RuleTables_k2 : List Kd := [.pure, .pure, .pure, .pure, .pure, .pure, .pure, .pure, .pure, .pure, .pure, .pure, .pure, .pure, .pure, .pure, .pure, .pure, .pure, .pure, .pure, .pure, .pure, .pure, .pure, .pure, .pure, .pure, .pure, .pure, .pure]
def podestalaw05_RuleTables_k1 : List Kd := [.pure, .pure, .pure, .pure]
def podestalaw05_RuleTables_raw (l : List Rule) : Option (Bool) :=
  (bif (decide ((((List.map Rule.av l).length : Nat) : Int) > 60)) then
    some true
  else
    (podestaref04_Table_raw l).bind fun x =>
    (bif ((tableR l) == x) then
      (refSortO l).bind fun x1 =>
      some ((((zipAll podestaref04_Equal (sortR l) x1) && (tableR (sortR l))) && (rule_Same (sortR (sortR l)) (sortR l))) && (rule_Same l l))
    else
      some false))
theorem podestalaw05_RuleTables_walk (l : List Rule) (f_l : Bool) (r : Bool) (H : podestalaw05_RuleTables_raw l = some r) :
    ACalls Try.prog tab.S 9 [.sl 34 (List.map Rule.av l) f_l] [] (.sc (.bool r)) [] := by
  have hG := tab_ok
  have hm := mixed
  refine ACalls.of_AR (G := tab) podestalaw05_RuleTables_F (fn := Try.f9) Try.func9 (by kernel_rfl) (by kernel_rfl) (by kernel_rfl) (Nat.le_of_ble_eq_true (by kernel_rfl)) ?_
  intro c0 hc0
  replace hc0 : c0.m.length = 0 := hc0
  rw [podestalaw05_RuleTables_raw] at H
  refine AR.seg hG hm 5 [0, 6] (k' := [.code [1, 0, 1], .code [1, 1]]) (t' := [(0, .sl 34 (List.map Rule.av l) f_l), (6, .sc (.bool (decide ((((List.map Rule.av l).length : Nat) : Int) > 60))))]) (h' := []) (by kernel_rfl) ?_
  refine AR.cond (.tmp 6) (decide ((((List.map Rule.av l).length : Nat) : Int) > 60)) (by kernel_rfl) (by kernel_rfl) (fun hb => ?ht1) (fun hb => ?hf1)
  case ht1 =>
    replace H := cond_t hb H
    refine AR.seg hG hm 1 [] (k' := [.code [1, 0, 1, 0, 0], .code [1, 0, 1, 0, 1], .code [1, 1]]) (t' := []) (h' := []) (by kernel_rfl) ?_
    refine AR.reg hm podestalaw05_RuleTables_k0 (by kernel_rfl) ?_
    refine DK.op' [7] (t' := [(7, .sc (.bool true))]) (h' := []) (LSpec.callP' (podestalaw05_answers_ok) (by kernel_rfl)) (by kernel_rfl) rfl (by kernel_rfl) rfl ?_
    refine DK.seg hG 1 [2] (t' := [(2, .sc (.bool true))]) (h' := []) (by kernel_rfl) rfl ?_
    refine DK.done (by kernel_rfl) (by kernel_rfl) ?_
    obtain rfl := Option.some.inj H
    exact AR.ret0 (fn := Try.f9) hG Try.func9 (by kernel_rfl) hc0 (r0 := .sc (.bool true)) (by kernel_rfl) (WkV.refl _)
  case hf1 =>
    replace H := cond_f hb H
    refine AR.seg hG hm 2 [0] (k' := [.code [1, 1, 0], .code [1, 1, 1]]) (t' := [(0, .sl 34 (List.map Rule.av l) f_l)]) (h' := []) (by kernel_rfl) ?_
    refine AR.reg hm podestalaw05_RuleTables_k1 (by kernel_rfl) ?_
    refine DK.seg hG 1 [0, 8] (t' := [(0, .sl 34 (List.map Rule.av l) f_l), (8, .sl 34 (List.map Rule.av l) f_l)]) (h' := []) (by kernel_rfl) rfl ?_
    refine DK.op' [0, 9] (t' := [(0, .sl 34 (List.map Rule.av l) f_l), (9, .sl 34 (List.map Rule.av l) true)]) (h' := []) (LSpec.callP' (rule_Copy_ok l f_l) (by kernel_rfl)) (by kernel_rfl) rfl (by kernel_rfl) rfl ?_
    refine DK.op' [0, 10] (t' := [(0, .sl 34 (List.map Rule.av l) f_l), (10, .sl 34 (List.map Rule.av (sortR l)) true)]) (h' := []) (LSpec.callP' (rule_Sort_ok l true) (by kernel_rfl)) (by kernel_rfl) rfl (by kernel_rfl) rfl ?_
    refine DK.seg hG 1 [0, 3] (t' := [(0, .sl 34 (List.map Rule.av l) f_l), (3, .sl 34 (List.map Rule.av (sortR l)) true)]) (h' := []) (by kernel_rfl) rfl ?_
    refine DK.done (by kernel_rfl) (by kernel_rfl) ?_
    refine AR.seg hG hm 1 [0, 3] (k' := [.code [1, 1, 1, 0], .code [1, 1, 1, 1]]) (t' := [(0, .sl 34 (List.map Rule.av l) f_l), (3, .sl 34 (List.map Rule.av (sortR l)) true)]) (h' := []) (by kernel_rfl) ?_
    refine AR.reg hm podestalaw05_RuleTables_k2 (by kernel_rfl) ?_
    refine DK.op' [0, 3, 11] (t' := [(0, .sl 34 (List.map Rule.av l) f_l), (3, .sl 34 (List.map Rule.av (sortR l)) true), (11, .sc (.bool true))]) (h' := []) (LSpec.callP' (podestalaw05_answers_ok) (by kernel_rfl)) (by kernel_rfl) rfl (by kernel_rfl) rfl ?_
    refine DK.seg hG 2 [0, 3, 12, 13] (t' := [(0, .sl 34 (List.map Rule.av l) f_l), (3, .sl 34 (List.map Rule.av (sortR l)) true), (12, .sc (.bool true)), (13, .sl 34 (List.map Rule.av l) f_l)]) (h' := []) (by kernel_rfl) rfl ?_
    refine DK.op' [0, 3, 12, 14] (t' := [(0, .sl 34 (List.map Rule.av l) f_l), (3, .sl 34 (List.map Rule.av (sortR l)) true), (12, .sc (.bool true)), (14, .sc (.bool (tableR l)))]) (h' := []) (LSpec.callP' (rule_Table_ok l f_l) (by kernel_rfl)) (by kernel_rfl) rfl (by kernel_rfl) rfl ?_
    refine DK.seg hG 1 [0, 3, 12, 14, 15] (t' := [(0, .sl 34 (List.map Rule.av l) f_l), (3, .sl 34 (List.map Rule.av (sortR l)) true), (12, .sc (.bool true)), (14, .sc (.bool (tableR l))), (15, .sl 34 (List.map Rule.av l) f_l)]) (h' := []) (by kernel_rfl) rfl ?_
    obtain ⟨x, hv, H⟩ := Option.bind_eq_some_iff.1 H
    refine DK.op' [0, 3, 12, 14, 16] (t' := [(0, .sl 34 (List.map Rule.av l) f_l), (3, .sl 34 (List.map Rule.av (sortR l)) true), (12, .sc (.bool true)), (14, .sc (.bool (tableR l))), (16, .sc (.bool x))]) (h' := []) (LSpec.callP' (podestaref04_Table_walk l f_l x hv) (by kernel_rfl)) (by kernel_rfl) rfl (by kernel_rfl) rfl ?_
    refine DK.seg hG 3 [0, 3, 19] (t' := [(0, .sl 34 (List.map Rule.av l) f_l), (3, .sl 34 (List.map Rule.av (sortR l)) true), (19, .sc (.bool ((tableR l) == x)))]) (h' := []) (by kernel_rfl) rfl ?_
    refine DK.split 19 ((tableR l) == x) (by kernel_rfl) (fun hb => ?ht2) (fun hb => ?hf2)
    case ht2 =>
      replace H := cond_t hb H
      refine DK.seg hG 2 [0, 3, 19, 20, 21] (t' := [(0, .sl 34 (List.map Rule.av l) f_l), (3, .sl 34 (List.map Rule.av (sortR l)) true), (19, .sc (.bool true)), (20, .sl 34 (List.map Rule.av (sortR l)) true), (21, .sl 34 (List.map Rule.av l) f_l)]) (h' := []) (by kernel_rfl) rfl ?_
      obtain ⟨x1, hv, H⟩ := Option.bind_eq_some_iff.1 H
      refine DK.op' [0, 3, 19, 20, 22] (t' := [(0, .sl 34 (List.map Rule.av l) f_l), (3, .sl 34 (List.map Rule.av (sortR l)) true), (19, .sc (.bool true)), (20, .sl 34 (List.map Rule.av (sortR l)) true), (22, .sl 34 (List.map Rule.av x1) false)]) (h' := []) (LSpec.callP' (podestaref04_Sort_ok l f_l x1 hv) (by kernel_rfl)) (by kernel_rfl) rfl (by kernel_rfl) rfl ?_
      refine DK.op' [0, 3, 19, 23] (t' := [(0, .sl 34 (List.map Rule.av l) f_l), (3, .sl 34 (List.map Rule.av (sortR l)) true), (19, .sc (.bool true)), (23, .sc (.bool (zipAll podestaref04_Equal (sortR l) x1)))]) (h' := []) (LSpec.callP' (podestaref04_Same_ok (sortR l) x1 true false) (by kernel_rfl)) (by kernel_rfl) rfl (by kernel_rfl) rfl ?_
      refine DK.seg hG 2 [0, 3, 25] (t' := [(0, .sl 34 (List.map Rule.av l) f_l), (3, .sl 34 (List.map Rule.av (sortR l)) true), (25, .sc (.bool (zipAll podestaref04_Equal (sortR l) x1)))]) (h' := []) (by kernel_rfl) rfl ?_
      refine DK.mux 25 (zipAll podestaref04_Equal (sortR l) x1) (j := 18) (h' := []) (by kernel_rfl) (fun z => [(0, .sl 34 (List.map Rule.av l) f_l), (3, .sl 34 (List.map Rule.av (sortR l)) true), (28, .sc (.bool (z && (tableR (sortR l)))))]) ?J3 (fun hb J => ?ht3) (fun hb J => ?hf3)
      case ht3 =>
        refine DK.seg hG 1 [0, 3, 25, 26] (t' := [(0, .sl 34 (List.map Rule.av l) f_l), (3, .sl 34 (List.map Rule.av (sortR l)) true), (25, .sc (.bool true)), (26, .sl 34 (List.map Rule.av (sortR l)) true)]) (h' := []) (by kernel_rfl) rfl ?_
        refine DK.op' [0, 3, 25, 27] (t' := [(0, .sl 34 (List.map Rule.av l) f_l), (3, .sl 34 (List.map Rule.av (sortR l)) true), (25, .sc (.bool true)), (27, .sc (.bool (tableR (sortR l))))]) (h' := []) (LSpec.callP' (rule_Table_ok (sortR l) true) (by kernel_rfl)) (by kernel_rfl) rfl (by kernel_rfl) rfl ?_
        exact DK.seg hG 1 [0, 3, 28] (by kernel_rfl) rfl J
      case hf3 =>
        exact DK.seg hG 3 [0, 3, 28] (by kernel_rfl) rfl J
      refine DK.seg hG 1 [0, 3, 29] (t' := [(0, .sl 34 (List.map Rule.av l) f_l), (3, .sl 34 (List.map Rule.av (sortR l)) true), (29, .sc (.bool ((zipAll podestaref04_Equal (sortR l) x1) && (tableR (sortR l)))))]) (h' := []) (by kernel_rfl) rfl ?_
      refine DK.mux 29 ((zipAll podestaref04_Equal (sortR l) x1) && (tableR (sortR l))) (j := 24) (h' := []) (by kernel_rfl) (fun z => [(0, .sl 34 (List.map Rule.av l) f_l), (34, .sc (.bool (z && (rule_Same (sortR (sortR l)) (sortR l)))))]) ?J4 (fun hb J => ?ht4) (fun hb J => ?hf4)
      case ht4 =>
        refine DK.seg hG 1 [0, 3, 29, 30] (t' := [(0, .sl 34 (List.map Rule.av l) f_l), (3, .sl 34 (List.map Rule.av (sortR l)) true), (29, .sc (.bool true)), (30, .sl 34 (List.map Rule.av (sortR l)) true)]) (h' := []) (by kernel_rfl) rfl ?_
        refine DK.op' [0, 3, 29, 31] (t' := [(0, .sl 34 (List.map Rule.av l) f_l), (3, .sl 34 (List.map Rule.av (sortR l)) true), (29, .sc (.bool true)), (31, .sl 34 (List.map Rule.av (sortR (sortR l))) true)]) (h' := []) (LSpec.callP' (rule_Sort_ok (sortR l) true) (by kernel_rfl)) (by kernel_rfl) rfl (by kernel_rfl) rfl ?_
        refine DK.seg hG 1 [0, 29, 31, 32] (t' := [(0, .sl 34 (List.map Rule.av l) f_l), (29, .sc (.bool true)), (31, .sl 34 (List.map Rule.av (sortR (sortR l))) true), (32, .sl 34 (List.map Rule.av (sortR l)) true)]) (h' := []) (by kernel_rfl) rfl ?_
        refine DK.op' [0, 29, 33] (t' := [(0, .sl 34 (List.map Rule.av l) f_l), (29, .sc (.bool true)), (33, .sc (.bool (rule_Same (sortR (sortR l)) (sortR l))))]) (h' := []) (LSpec.callP' (rule_Same_calls (sortR (sortR l)) (sortR l) true true) (by kernel_rfl)) (by kernel_rfl) rfl (by kernel_rfl) rfl ?_
        exact DK.seg hG 1 [0, 34] (by kernel_rfl) rfl J
      case hf4 =>
        exact DK.seg hG 5 [0, 34] (by kernel_rfl) rfl J
      refine DK.seg hG 1 [0, 35] (t' := [(0, .sl 34 (List.map Rule.av l) f_l), (35, .sc (.bool (((zipAll podestaref04_Equal (sortR l) x1) && (tableR (sortR l))) && (rule_Same (sortR (sortR l)) (sortR l)))))]) (h' := []) (by kernel_rfl) rfl ?_
      refine DK.mux 35 (((zipAll podestaref04_Equal (sortR l) x1) && (tableR (sortR l))) && (rule_Same (sortR (sortR l)) (sortR l))) (j := 30) (h' := []) (by kernel_rfl) (fun z => [(40, .sc (.bool (z && (rule_Same l l))))]) ?J5 (fun hb J => ?ht5) (fun hb J => ?hf5)
      case ht5 =>
        refine DK.seg hG 1 [0, 35, 36] (t' := [(0, .sl 34 (List.map Rule.av l) f_l), (35, .sc (.bool true)), (36, .sl 34 (List.map Rule.av l) f_l)]) (h' := []) (by kernel_rfl) rfl ?_
        refine DK.op' [0, 35, 37] (t' := [(0, .sl 34 (List.map Rule.av l) f_l), (35, .sc (.bool true)), (37, .sl 34 (List.map Rule.av l) true)]) (h' := []) (LSpec.callP' (rule_Copy_ok l f_l) (by kernel_rfl)) (by kernel_rfl) rfl (by kernel_rfl) rfl ?_
        refine DK.seg hG 1 [35, 37, 38] (t' := [(35, .sc (.bool true)), (37, .sl 34 (List.map Rule.av l) true), (38, .sl 34 (List.map Rule.av l) f_l)]) (h' := []) (by kernel_rfl) rfl ?_
        refine DK.op' [35, 39] (t' := [(35, .sc (.bool true)), (39, .sc (.bool (rule_Same l l)))]) (h' := []) (LSpec.callP' (rule_Same_calls l l true f_l) (by kernel_rfl)) (by kernel_rfl) rfl (by kernel_rfl) rfl ?_
        exact DK.seg hG 1 [40] (by kernel_rfl) rfl J
      case hf5 =>
        exact DK.seg hG 5 [40] (by kernel_rfl) rfl J
      refine DK.seg hG 1 [2] (t' := [(2, .sc (.bool ((((zipAll podestaref04_Equal (sortR l) x1) && (tableR (sortR l))) && (rule_Same (sortR (sortR l)) (sortR l))) && (rule_Same l l))))]) (h' := []) (by kernel_rfl) rfl ?_
      refine DK.done (by kernel_rfl) (by kernel_rfl) ?_
      obtain rfl := Option.some.inj H
      exact AR.ret0 (fn := Try.f9) hG Try.func9 (by kernel_rfl) hc0 (r0 := .sc (.bool ((((zipAll podestaref04_Equal (sortR l) x1) && (tableR (sortR l))) && (rule_Same (sortR (sortR l)) (sortR l))) && (rule_Same l l)))) (by kernel_rfl) (WkV.refl _)
    case hf2 =>
      replace H := cond_f hb H
      refine DK.seg hG 22 [2] (t' := [(2, .sc (.bool false))]) (h' := []) (by kernel_rfl) rfl ?_
      refine DK.done (by kernel_rfl) (by kernel_rfl) ?_
      obtain rfl := Option.some.inj H
      exact AR.ret0 (fn := Try.f9) hG Try.func9 (by kernel_rfl) hc0 (r0 := .sc (.bool false)) (by kernel_rfl) (WkV.refl _)

theorem RuleTables_true (l : List Rule) (w : ∀ y ∈ l, Rule.wf y) (_ : l.length * 272 ≤ 140737488355328) : podestalaw05_RuleTables_raw l = some true := by
  rw [podestalaw05_RuleTables_raw]
  simp only [List.length_map, ref_Same_eq, rule_Same_eq]
  by_cases hl : l.length > 60
  · rw [decide_eq_true (show ((l.length : Nat) : Int) > 60 by omega)]; rfl
  rw [decide_eq_false (by omega), refTable_raw_eq l w (by omega), refSortO_eq w (by omega)]
  simp only [cond_false, Option.bind_some, tableR_sort, sortR_self (sortR_srt l) (sortR_sound l), beq_self_eq_true, Bool.and_self]
  rfl

end Go.Proofs.Ytadolbhmdimbkaa

set_option linter.unusedVariables false
set_option linter.unusedSimpArgs false
set_option maxRecDepth 100000
set_option maxHeartbeats 4000000
namespace Go.Proofs.Ytadolbhmdimbkaa
open Go.Sh
/-! ### podestaref01.Whole: function 33 -/
noncomputable def podestaref01_Whole_F : Go.Sh.Fn := ⟨33, bodyOf Try.f33, 35⟩
def podestaref01_Whole_k2 : List Kd := [.pure, .pure, .loud, .pure]
def podestaref01_Whole_k3 : List Kd := [.pure, .pure, .loud, .pure]
def podestaref01_Whole_k1 : List Kd := [.pure, .pure, .pure, .pure]
def podestaref01_Whole_k0 : List Kd := [.pure, .pure, .read, .pure, .pure, .pure, .pure]
def podestaref01_Whole_k4 : List Kd := [.pure, .read, .pure]
def podestaref01_Whole_l1s : List Bool → List Int → Option ((List Int))
  | [], out1 =>
    some out1
  | x2 :: rest1, out1 =>
    (bif x2 then
      fitO (out1.length + [49].length) 1 (
      podestaref01_Whole_l1s rest1 (out1 ++ [49]))
    else
      fitO (out1.length + [48].length) 1 (
      podestaref01_Whole_l1s rest1 (out1 ++ [48])))
theorem podestaref01_Whole_l1_walk (h1 : List Int) (i : Nat) (out : List Int) (hlt_i : i < 12) (x1 : (List Bool)) (r : ByteArray) (c0 : Ctx) (hc0 : c0.m.length = 0) (res : (List Int)) (J : AR Try.prog tab podestaref01_Whole_F c0 (Rp tab.S c0 (.sc (.string r)) []) [.blk 1, .code [1, 1, 0, 1, 0, 0, 1, 1], .loop [1, 1, 0, 1, 0], .blk 0, .code [1, 1, 1]] [(1, .ptr 0 0 none), (3, .own 1 1000000), (4, .sc (.int .i64 ((i : Nat) : Int)))] [.box 25 [.arr .u64 12 h1], .row 5 (List.map (intA .u8) res) 1000000 true]) :
    ∀ (rest1 : List Bool) (k1 : Nat) (hd : x1.drop k1 = rest1) (out1 : List Int) (H : podestaref01_Whole_l1s rest1 out1 = some res), AR Try.prog tab podestaref01_Whole_F c0 (Rp tab.S c0 (.sc (.string r)) []) [.code [1, 1, 0, 1, 0, 0, 1, 0, 0, 1, 1, 0, 0], .loop [1, 1, 0, 1, 0, 0, 1, 0, 0, 1, 1, 0], .blk 2, .blk 1, .code [1, 1, 0, 1, 0, 0, 1, 1], .loop [1, 1, 0, 1, 0], .blk 0, .code [1, 1, 1]] [(1, .ptr 0 0 none), (3, .own 1 1000000), (4, .sc (.int .i64 ((i : Nat) : Int))), (5, .sl 4 (List.map boolA x1) false), (6, .sc (.int .i64 ((k1 : Nat) : Int)))] [.box 25 [.arr .u64 12 h1], .row 5 (List.map (intA .u8) out1) 1000000 true] := by
  have hG := tab_ok
  have hm := mixed
  intro rest1
  induction rest1 with
  | nil =>
    intro k1 hd out1 H
    rw [podestaref01_Whole_l1s] at H
    refine AR.facts 5 rfl fun hf => ?_
    have hlen : x1.length ≤ 9223372036854775807 := by have hq := len_ok hf.2.1; rw [List.length_map] at hq; exact hq
    have hge : x1.length ≤ k1 := List.drop_eq_nil_iff.1 hd
    have hc : (decide (((k1 : Nat) : Int) < (((List.map boolA x1).length : Nat) : Int))) = false := by rw [List.length_map]; exact decide_eq_false (by omega)
    refine AR.seg hG hm 3 [1, 3, 4, 5, 6, 20] (k' := [.code [1, 1, 0, 1, 0, 0, 1, 0, 0, 1, 1, 0, 0, 0, 1], .code [1, 1, 0, 1, 0, 0, 1, 0, 0, 1, 1, 0, 0, 1], .loop [1, 1, 0, 1, 0, 0, 1, 0, 0, 1, 1, 0], .blk 2, .blk 1, .code [1, 1, 0, 1, 0, 0, 1, 1], .loop [1, 1, 0, 1, 0], .blk 0, .code [1, 1, 1]]) (t' := [(1, .ptr 0 0 none), (3, .own 1 1000000), (4, .sc (.int .i64 ((i : Nat) : Int))), (5, .sl 4 (List.map boolA x1) false), (6, .sc (.int .i64 ((k1 : Nat) : Int))), (20, .sc (.bool (decide (((k1 : Nat) : Int) < (((List.map boolA x1).length : Nat) : Int)))))]) (h' := [.box 25 [.arr .u64 12 h1], .row 5 (List.map (intA .u8) out1) 1000000 true]) (by kernel_rfl) ?_
    refine AR.cond (.tmp 20) (decide (((k1 : Nat) : Int) < (((List.map boolA x1).length : Nat) : Int))) (by kernel_rfl) (by kernel_rfl) (fun hb => ?ht42) (fun hb => ?hf42)
    case ht42 => exact absurd (hb.symm.trans hc) (by decide)
    case hf42 =>
      refine AR.seg hG hm 1 [1, 3, 4] (k' := [.blk 1, .code [1, 1, 0, 1, 0, 0, 1, 1], .loop [1, 1, 0, 1, 0], .blk 0, .code [1, 1, 1]]) (t' := [(1, .ptr 0 0 none), (3, .own 1 1000000), (4, .sc (.int .i64 ((i : Nat) : Int)))]) (h' := [.box 25 [.arr .u64 12 h1], .row 5 (List.map (intA .u8) out1) 1000000 true]) (by kernel_rfl) ?_
      refine AR.keep [1, 3, 4] (t' := [(1, .ptr 0 0 none), (3, .own 1 1000000), (4, .sc (.int .i64 ((i : Nat) : Int)))]) (by kernel_rfl) ?_
      obtain rfl := Option.some.inj H
      exact J
  | cons x2 rest1 ih =>
    intro k1 hd out1 H
    rw [podestaref01_Whole_l1s] at H
    refine AR.facts 5 rfl fun hf => ?_
    have hlen : x1.length ≤ 9223372036854775807 := by have hq := len_ok hf.2.1; rw [List.length_map] at hq; exact hq
    obtain ⟨hlt, hv_k1, hd2⟩ := drop_cons hd
    have hc : (decide (((k1 : Nat) : Int) < (((List.map boolA x1).length : Nat) : Int))) = true := by rw [List.length_map]; exact decide_eq_true (by omega)
    have hw : IntKind.i64.wrap (((k1 : Nat) : Int) + 1) = ((k1 + 1 : Nat) : Int) := wrapI_succ (by omega)
    refine AR.seg hG hm 3 [1, 3, 4, 5, 6, 20] (k' := [.code [1, 1, 0, 1, 0, 0, 1, 0, 0, 1, 1, 0, 0, 0, 1], .code [1, 1, 0, 1, 0, 0, 1, 0, 0, 1, 1, 0, 0, 1], .loop [1, 1, 0, 1, 0, 0, 1, 0, 0, 1, 1, 0], .blk 2, .blk 1, .code [1, 1, 0, 1, 0, 0, 1, 1], .loop [1, 1, 0, 1, 0], .blk 0, .code [1, 1, 1]]) (t' := [(1, .ptr 0 0 none), (3, .own 1 1000000), (4, .sc (.int .i64 ((i : Nat) : Int))), (5, .sl 4 (List.map boolA x1) false), (6, .sc (.int .i64 ((k1 : Nat) : Int))), (20, .sc (.bool (decide (((k1 : Nat) : Int) < (((List.map boolA x1).length : Nat) : Int)))))]) (h' := [.box 25 [.arr .u64 12 h1], .row 5 (List.map (intA .u8) out1) 1000000 true]) (by kernel_rfl) ?_
    refine AR.cond (.tmp 20) (decide (((k1 : Nat) : Int) < (((List.map boolA x1).length : Nat) : Int))) (by kernel_rfl) (by kernel_rfl) (fun hb => ?ht43) (fun hb => ?hf43)
    case ht43 =>
      refine AR.seg hG hm 4 [1, 3, 4, 5, 6] (k' := [.code [1, 1, 0, 1, 0, 0, 1, 0, 0, 1, 1, 0, 0, 1, 0, 0, 0], .code [1, 1, 0, 1, 0, 0, 1, 0, 0, 1, 1, 0, 0, 1, 0, 0, 1], .blk 3, .code [1, 1, 0, 1, 0, 0, 1, 0, 0, 1, 1, 0, 0, 1, 1], .loop [1, 1, 0, 1, 0, 0, 1, 0, 0, 1, 1, 0], .blk 2, .blk 1, .code [1, 1, 0, 1, 0, 0, 1, 1], .loop [1, 1, 0, 1, 0], .blk 0, .code [1, 1, 1]]) (t' := [(1, .ptr 0 0 none), (3, .own 1 1000000), (4, .sc (.int .i64 ((i : Nat) : Int))), (5, .sl 4 (List.map boolA x1) false), (6, .sc (.int .i64 ((k1 : Nat) : Int)))]) (h' := [.box 25 [.arr .u64 12 h1], .row 5 (List.map (intA .u8) out1) 1000000 true]) (by kernel_rfl) ?_
      refine AR.reg hm podestaref01_Whole_k1 (by kernel_rfl) ?_
      refine DK.seg hG 2 [1, 3, 4, 5, 6, 23, 24] (t' := [(1, .ptr 0 0 none), (3, .own 1 1000000), (4, .sc (.int .i64 ((i : Nat) : Int))), (5, .sl 4 (List.map boolA x1) false), (6, .sc (.int .i64 ((k1 : Nat) : Int))), (23, .sl 4 (List.map boolA x1) false), (24, .sc (.int .i64 ((k1 : Nat) : Int)))]) (h' := [.box 25 [.arr .u64 12 h1], .row 5 (List.map (intA .u8) out1) 1000000 true]) (by kernel_rfl) rfl ?_
      refine DK.op' [1, 3, 4, 5, 6, 25] (t' := [(1, .ptr 0 0 none), (3, .own 1 1000000), (4, .sc (.int .i64 ((i : Nat) : Int))), (5, .sl 4 (List.map boolA x1) false), (6, .sc (.int .i64 ((k1 : Nat) : Int))), (25, .ep [.sc (.bool x2)] 0 none)]) (h' := [.box 25 [.arr .u64 12 h1], .row 5 (List.map (intA .u8) out1) 1000000 true]) (LSpec.index' (r := .sc (.bool x2)) (fs := [.sc (.bool x2)]) hG (rows := List.map boolA x1) (j := ((k1 : Nat) : Int)) (by kernel_rfl) (ixO_map hv_k1 _) (by kernel_rfl)) (by kernel_rfl) rfl (by kernel_rfl) rfl ?_
      refine DK.seg hG 1 [1, 3, 4, 5, 6, 26] (t' := [(1, .ptr 0 0 none), (3, .own 1 1000000), (4, .sc (.int .i64 ((i : Nat) : Int))), (5, .sl 4 (List.map boolA x1) false), (6, .sc (.int .i64 ((k1 : Nat) : Int))), (26, .sc (.bool x2))]) (h' := [.box 25 [.arr .u64 12 h1], .row 5 (List.map (intA .u8) out1) 1000000 true]) (by kernel_rfl) rfl ?_
      refine DK.done (by kernel_rfl) (by kernel_rfl) ?_
      refine AR.cond (.tmp 26) x2 (by kernel_rfl) (by kernel_rfl) (fun hb => ?ht44) (fun hb => ?hf44)
      case ht44 =>
        replace H := cond_t hb H
        refine AR.reg hm podestaref01_Whole_k2 (by kernel_rfl) ?_
        refine DK.seg hG 2 [1, 4, 5, 6, 27, 28] (t' := [(1, .ptr 0 0 none), (4, .sc (.int .i64 ((i : Nat) : Int))), (5, .sl 4 (List.map boolA x1) false), (6, .sc (.int .i64 ((k1 : Nat) : Int))), (27, .own 1 1000000), (28, .sl 5 (List.map (intA .u8) [49]) true)]) (h' := [.box 25 [.arr .u64 12 h1], .row 5 (List.map (intA .u8) out1) 1000000 true]) (by kernel_rfl) rfl ?_
        obtain ⟨hfit, H⟩ := fitO_some H
        refine DK.op' [1, 4, 5, 6, 29] (t' := [(1, .ptr 0 0 none), (4, .sc (.int .i64 ((i : Nat) : Int))), (5, .sl 4 (List.map boolA x1) false), (6, .sc (.int .i64 ((k1 : Nat) : Int))), (29, .own 1 1000001)]) (h' := [.box 25 [.arr .u64 12 h1], .row 5 (List.map (intA .u8) (out1 ++ [49])) 1000001 true]) (LSpec.append' hG (intA .u8) out1 [49] 1 1000000 5 1 hfit (by kernel_rfl)) (by kernel_rfl) (by kernel_rfl) (by kernel_rfl) rfl ?_
        refine DK.seg hG 1 [1, 3, 4, 5, 6] (t' := [(1, .ptr 0 0 none), (3, .own 1 1000001), (4, .sc (.int .i64 ((i : Nat) : Int))), (5, .sl 4 (List.map boolA x1) false), (6, .sc (.int .i64 ((k1 : Nat) : Int)))]) (h' := [.box 25 [.arr .u64 12 h1], .row 5 (List.map (intA .u8) (out1 ++ [49])) 1000001 true]) (by kernel_rfl) rfl ?_
        refine DK.done (by kernel_rfl) (by kernel_rfl) ?_
        refine AR.seg hG hm 2 [1, 3, 4, 5, 6] (k' := [.loop [1, 1, 0, 1, 0, 0, 1, 0, 0, 1, 1, 0], .blk 2, .blk 1, .code [1, 1, 0, 1, 0, 0, 1, 1], .loop [1, 1, 0, 1, 0], .blk 0, .code [1, 1, 1]]) (t' := [(1, .ptr 0 0 none), (3, .own 1 1000001), (4, .sc (.int .i64 ((i : Nat) : Int))), (5, .sl 4 (List.map boolA x1) false), (6, .sc (.int .i64 (IntKind.i64.wrap (((k1 : Nat) : Int) + 1))))]) (h' := [.box 25 [.arr .u64 12 h1], .row 5 (List.map (intA .u8) (out1 ++ [49])) 1000001 true]) (by kernel_rfl) ?_
        refine AR.keep [1, 3, 4, 5, 6] (t' := [(1, .ptr 0 0 none), (3, .own 1 1000001), (4, .sc (.int .i64 ((i : Nat) : Int))), (5, .sl 4 (List.map boolA x1) false), (6, .sc (.int .i64 (IntKind.i64.wrap (((k1 : Nat) : Int) + 1))))]) (by kernel_rfl) ?_
        refine AR.norm' 1 1000000 hc0 (t' := [(1, .ptr 0 0 none), (3, .own 1 1000000), (4, .sc (.int .i64 ((i : Nat) : Int))), (5, .sl 4 (List.map boolA x1) false), (6, .sc (.int .i64 (IntKind.i64.wrap (((k1 : Nat) : Int) + 1))))]) (h' := [.box 25 [.arr .u64 12 h1], .row 5 (List.map (intA .u8) (out1 ++ [49])) 1000000 true]) (by kernel_rfl) ?_
        refine AR.loop_round ?_
        rw [hw]
        exact ih (k1 + 1) hd2 (out1 ++ [49]) H
      case hf44 =>
        replace H := cond_f hb H
        refine AR.reg hm podestaref01_Whole_k3 (by kernel_rfl) ?_
        refine DK.seg hG 2 [1, 4, 5, 6, 30, 31] (t' := [(1, .ptr 0 0 none), (4, .sc (.int .i64 ((i : Nat) : Int))), (5, .sl 4 (List.map boolA x1) false), (6, .sc (.int .i64 ((k1 : Nat) : Int))), (30, .own 1 1000000), (31, .sl 5 (List.map (intA .u8) [48]) true)]) (h' := [.box 25 [.arr .u64 12 h1], .row 5 (List.map (intA .u8) out1) 1000000 true]) (by kernel_rfl) rfl ?_
        obtain ⟨hfit, H⟩ := fitO_some H
        refine DK.op' [1, 4, 5, 6, 32] (t' := [(1, .ptr 0 0 none), (4, .sc (.int .i64 ((i : Nat) : Int))), (5, .sl 4 (List.map boolA x1) false), (6, .sc (.int .i64 ((k1 : Nat) : Int))), (32, .own 1 1000001)]) (h' := [.box 25 [.arr .u64 12 h1], .row 5 (List.map (intA .u8) (out1 ++ [48])) 1000001 true]) (LSpec.append' hG (intA .u8) out1 [48] 1 1000000 5 1 hfit (by kernel_rfl)) (by kernel_rfl) (by kernel_rfl) (by kernel_rfl) rfl ?_
        refine DK.seg hG 1 [1, 3, 4, 5, 6] (t' := [(1, .ptr 0 0 none), (3, .own 1 1000001), (4, .sc (.int .i64 ((i : Nat) : Int))), (5, .sl 4 (List.map boolA x1) false), (6, .sc (.int .i64 ((k1 : Nat) : Int)))]) (h' := [.box 25 [.arr .u64 12 h1], .row 5 (List.map (intA .u8) (out1 ++ [48])) 1000001 true]) (by kernel_rfl) rfl ?_
        refine DK.done (by kernel_rfl) (by kernel_rfl) ?_
        refine AR.seg hG hm 2 [1, 3, 4, 5, 6] (k' := [.loop [1, 1, 0, 1, 0, 0, 1, 0, 0, 1, 1, 0], .blk 2, .blk 1, .code [1, 1, 0, 1, 0, 0, 1, 1], .loop [1, 1, 0, 1, 0], .blk 0, .code [1, 1, 1]]) (t' := [(1, .ptr 0 0 none), (3, .own 1 1000001), (4, .sc (.int .i64 ((i : Nat) : Int))), (5, .sl 4 (List.map boolA x1) false), (6, .sc (.int .i64 (IntKind.i64.wrap (((k1 : Nat) : Int) + 1))))]) (h' := [.box 25 [.arr .u64 12 h1], .row 5 (List.map (intA .u8) (out1 ++ [48])) 1000001 true]) (by kernel_rfl) ?_
        refine AR.keep [1, 3, 4, 5, 6] (t' := [(1, .ptr 0 0 none), (3, .own 1 1000001), (4, .sc (.int .i64 ((i : Nat) : Int))), (5, .sl 4 (List.map boolA x1) false), (6, .sc (.int .i64 (IntKind.i64.wrap (((k1 : Nat) : Int) + 1))))]) (by kernel_rfl) ?_
        refine AR.norm' 1 1000000 hc0 (t' := [(1, .ptr 0 0 none), (3, .own 1 1000000), (4, .sc (.int .i64 ((i : Nat) : Int))), (5, .sl 4 (List.map boolA x1) false), (6, .sc (.int .i64 (IntKind.i64.wrap (((k1 : Nat) : Int) + 1))))]) (h' := [.box 25 [.arr .u64 12 h1], .row 5 (List.map (intA .u8) (out1 ++ [48])) 1000000 true]) (by kernel_rfl) ?_
        refine AR.loop_round ?_
        rw [hw]
        exact ih (k1 + 1) hd2 (out1 ++ [48]) H
    case hf43 => exact absurd (hc.symm.trans hb) (by decide)

def podestaref01_Whole_l0s (h1 : List Int) : Nat → Nat → List Int → Option ((List Int))
  | 0, i, out =>
    some out
  | rest + 1, i, out =>
    (bitsO (h1.getD (i) 0) (sizeT ((i : Nat) : Int))).bind fun x1 =>
    (podestaref01_Whole_l1s x1 out).bind fun v =>
    podestaref01_Whole_l0s h1 rest (i + 1) v
theorem podestaref01_Whole_l0_walk (h1 : List Int) (r : ByteArray) (c0 : Ctx) (hc0 : c0.m.length = 0) (res : (List Int)) (J : AR Try.prog tab podestaref01_Whole_F c0 (Rp tab.S c0 (.sc (.string r)) []) [.code [1, 1, 1]] [(3, .own 1 1000000)] [.box 25 [.arr .u64 12 h1], .row 5 (List.map (intA .u8) res) 1000000 true]) :
    ∀ (rest : Nat) (i : Nat) (hd : i + rest = 12) (out : List Int) (H : podestaref01_Whole_l0s h1 rest i out = some res), AR Try.prog tab podestaref01_Whole_F c0 (Rp tab.S c0 (.sc (.string r)) []) [.code [1, 1, 0, 1, 0, 0], .loop [1, 1, 0, 1, 0], .blk 0, .code [1, 1, 1]] [(1, .ptr 0 0 none), (3, .own 1 1000000), (4, .sc (.int .i64 ((i : Nat) : Int)))] [.box 25 [.arr .u64 12 h1], .row 5 (List.map (intA .u8) out) 1000000 true] := by
  have hG := tab_ok
  have hm := mixed
  intro rest
  induction rest with
  | zero =>
    intro i hd out H
    rw [podestaref01_Whole_l0s] at H
    have hc : (decide (((i : Nat) : Int) < 12)) = false := decide_eq_false (by omega)
    refine AR.seg hG hm 3 [1, 3, 4, 8] (k' := [.code [1, 1, 0, 1, 0, 0, 0, 1], .code [1, 1, 0, 1, 0, 0, 1], .loop [1, 1, 0, 1, 0], .blk 0, .code [1, 1, 1]]) (t' := [(1, .ptr 0 0 none), (3, .own 1 1000000), (4, .sc (.int .i64 ((i : Nat) : Int))), (8, .sc (.bool (decide (((i : Nat) : Int) < 12))))]) (h' := [.box 25 [.arr .u64 12 h1], .row 5 (List.map (intA .u8) out) 1000000 true]) (by kernel_rfl) ?_
    refine AR.cond (.tmp 8) (decide (((i : Nat) : Int) < 12)) (by kernel_rfl) (by kernel_rfl) (fun hb => ?ht34) (fun hb => ?hf34)
    case ht34 => exact absurd (hb.symm.trans hc) (by decide)
    case hf34 =>
      refine AR.seg hG hm 1 [3] (k' := [.code [1, 1, 1]]) (t' := [(3, .own 1 1000000)]) (h' := [.box 25 [.arr .u64 12 h1], .row 5 (List.map (intA .u8) out) 1000000 true]) (by kernel_rfl) ?_
      refine AR.keep [3] (t' := [(3, .own 1 1000000)]) (by kernel_rfl) ?_
      obtain rfl := Option.some.inj H
      exact J
  | succ rest ih =>
    intro i hd out H
    rw [podestaref01_Whole_l0s] at H
    have hlt_i : i < 12 := by omega
    have hc : (decide (((i : Nat) : Int) < 12)) = true := decide_eq_true (by omega)
    have hw : IntKind.i64.wrap (((i : Nat) : Int) + 1) = ((i + 1 : Nat) : Int) := wrapI_succ (by omega)
    refine AR.seg hG hm 3 [1, 3, 4, 8] (k' := [.code [1, 1, 0, 1, 0, 0, 0, 1], .code [1, 1, 0, 1, 0, 0, 1], .loop [1, 1, 0, 1, 0], .blk 0, .code [1, 1, 1]]) (t' := [(1, .ptr 0 0 none), (3, .own 1 1000000), (4, .sc (.int .i64 ((i : Nat) : Int))), (8, .sc (.bool (decide (((i : Nat) : Int) < 12))))]) (h' := [.box 25 [.arr .u64 12 h1], .row 5 (List.map (intA .u8) out) 1000000 true]) (by kernel_rfl) ?_
    refine AR.cond (.tmp 8) (decide (((i : Nat) : Int) < 12)) (by kernel_rfl) (by kernel_rfl) (fun hb => ?ht35) (fun hb => ?hf35)
    case ht35 =>
      refine AR.seg hG hm 4 [1, 3, 4] (k' := [.code [1, 1, 0, 1, 0, 0, 1, 0, 0, 0], .code [1, 1, 0, 1, 0, 0, 1, 0, 0, 1], .blk 1, .code [1, 1, 0, 1, 0, 0, 1, 1], .loop [1, 1, 0, 1, 0], .blk 0, .code [1, 1, 1]]) (t' := [(1, .ptr 0 0 none), (3, .own 1 1000000), (4, .sc (.int .i64 ((i : Nat) : Int)))]) (h' := [.box 25 [.arr .u64 12 h1], .row 5 (List.map (intA .u8) out) 1000000 true]) (by kernel_rfl) ?_
      refine AR.reg hm podestaref01_Whole_k0 (by kernel_rfl) ?_
      refine DK.seg hG 1 [1, 3, 4, 11] (t' := [(1, .ptr 0 0 none), (3, .own 1 1000000), (4, .sc (.int .i64 ((i : Nat) : Int))), (11, .sc (.int .i64 ((i : Nat) : Int)))]) (h' := [.box 25 [.arr .u64 12 h1], .row 5 (List.map (intA .u8) out) 1000000 true]) (by kernel_rfl) rfl ?_
      have hreq := idx_in 12 hlt_i (by decide)
      refine DK.op' [1, 3, 4, 12] (t' := [(1, .ptr 0 0 none), (3, .own 1 1000000), (4, .sc (.int .i64 ((i : Nat) : Int))), (12, .ptr 0 0 (some (i, 12)))]) (h' := [.box 25 [.arr .u64 12 h1], .row 5 (List.map (intA .u8) out) 1000000 true]) (LSpec.idxPtr (o := 0) (off := 0) (m := 12) (j := ((i : Nat) : Int)) hG hreq (by kernel_rfl)) (by kernel_rfl) rfl (by kernel_rfl) rfl ?_
      refine DK.seg hG 2 [1, 3, 4, 13, 14] (t' := [(1, .ptr 0 0 none), (3, .own 1 1000000), (4, .sc (.int .i64 ((i : Nat) : Int))), (13, .sc (.int .u64 (h1.getD (i) 0))), (14, .sc (.int .i64 ((i : Nat) : Int)))]) (h' := [.box 25 [.arr .u64 12 h1], .row 5 (List.map (intA .u8) out) 1000000 true]) (by kernel_rfl) rfl ?_
      refine DK.op' [1, 3, 4, 13, 15] (t' := [(1, .ptr 0 0 none), (3, .own 1 1000000), (4, .sc (.int .i64 ((i : Nat) : Int))), (13, .sc (.int .u64 (h1.getD (i) 0))), (15, .sc (.int .i64 (sizeT ((i : Nat) : Int))))]) (h' := [.box 25 [.arr .u64 12 h1], .row 5 (List.map (intA .u8) out) 1000000 true]) (LSpec.callP' (podestaref01_Size_ok ((i : Nat) : Int)) (by kernel_rfl)) (by kernel_rfl) rfl (by kernel_rfl) rfl ?_
      obtain ⟨x1, hv, H⟩ := Option.bind_eq_some_iff.1 H
      refine DK.op' [1, 3, 4, 16] (t' := [(1, .ptr 0 0 none), (3, .own 1 1000000), (4, .sc (.int .i64 ((i : Nat) : Int))), (16, .sl 4 (List.map boolA x1) false)]) (h' := [.box 25 [.arr .u64 12 h1], .row 5 (List.map (intA .u8) out) 1000000 true]) (LSpec.callP' (podestaref01_Bits_ok (h1.getD (i) 0) (sizeT ((i : Nat) : Int)) x1 hv) (by kernel_rfl)) (by kernel_rfl) rfl (by kernel_rfl) rfl ?_
      refine DK.seg hG 1 [1, 3, 4, 5] (t' := [(1, .ptr 0 0 none), (3, .own 1 1000000), (4, .sc (.int .i64 ((i : Nat) : Int))), (5, .sl 4 (List.map boolA x1) false)]) (h' := [.box 25 [.arr .u64 12 h1], .row 5 (List.map (intA .u8) out) 1000000 true]) (by kernel_rfl) rfl ?_
      refine DK.done (by kernel_rfl) (by kernel_rfl) ?_
      refine AR.seg hG hm 3 [1, 3, 4, 5, 6] (k' := [.code [1, 1, 0, 1, 0, 0, 1, 0, 0, 1, 1, 0], .blk 2, .blk 1, .code [1, 1, 0, 1, 0, 0, 1, 1], .loop [1, 1, 0, 1, 0], .blk 0, .code [1, 1, 1]]) (t' := [(1, .ptr 0 0 none), (3, .own 1 1000000), (4, .sc (.int .i64 ((i : Nat) : Int))), (5, .sl 4 (List.map boolA x1) false), (6, .sc (.int .i64 0))]) (h' := [.box 25 [.arr .u64 12 h1], .row 5 (List.map (intA .u8) out) 1000000 true]) (by kernel_rfl) ?_
      obtain ⟨v, hv, H⟩ := Option.bind_eq_some_iff.1 H
      refine AR.into (by kernel_rfl) ?_
      refine podestaref01_Whole_l1_walk h1 i out hlt_i x1 r c0 hc0 v ?_ x1 0 rfl out hv
      refine AR.seg hG hm 2 [1, 3, 4] (k' := [.loop [1, 1, 0, 1, 0], .blk 0, .code [1, 1, 1]]) (t' := [(1, .ptr 0 0 none), (3, .own 1 1000000), (4, .sc (.int .i64 (IntKind.i64.wrap (((i : Nat) : Int) + 1))))]) (h' := [.box 25 [.arr .u64 12 h1], .row 5 (List.map (intA .u8) v) 1000000 true]) (by kernel_rfl) ?_
      refine AR.keep [1, 3, 4] (t' := [(1, .ptr 0 0 none), (3, .own 1 1000000), (4, .sc (.int .i64 (IntKind.i64.wrap (((i : Nat) : Int) + 1))))]) (by kernel_rfl) ?_
      refine AR.loop_round ?_
      rw [hw]
      exact ih (i + 1) (by omega) v H
    case hf35 => exact absurd (hc.symm.trans hb) (by decide)

def podestaref01_Whole_raw (h1 : List Int) : Option (ByteArray) :=
  (podestaref01_Whole_l0s h1 12 0 ([] : List Int)).bind fun v =>
  some (strOfNums v)
theorem podestaref01_Whole_walk (h1 : List Int) (r : ByteArray) (H : podestaref01_Whole_raw h1 = some r) :
    ACalls Try.prog tab.S 33 [.arr .u64 12 h1] [] (.sc (.string r)) [] := by
  have hG := tab_ok
  have hm := mixed
  refine ACalls.of_AR (G := tab) podestaref01_Whole_F (fn := Try.f33) Try.func33 (by kernel_rfl) (by kernel_rfl) (by kernel_rfl) (Nat.le_of_ble_eq_true (by kernel_rfl)) ?_
  intro c0 hc0
  replace hc0 : c0.m.length = 0 := hc0
  rw [podestaref01_Whole_raw] at H
  refine AR.seg hG hm 8 [1, 3, 4] (k' := [.code [1, 1, 0, 1, 0], .blk 0, .code [1, 1, 1]]) (t' := [(1, .ptr 0 0 none), (3, .sl 0 [] true), (4, .sc (.int .i64 0))]) (h' := [.box 25 [.arr .u64 12 h1]]) (by kernel_rfl) ?_
  refine AR.adoptB' 3 5 (t' := [(3, .own 1 1000000), (1, .ptr 0 0 none), (4, .sc (.int .i64 0))]) (h' := [.box 25 [.arr .u64 12 h1], .row 5 (List.map (intA .u8) ([] : List Int)) 1000000 true]) (by kernel_rfl) ?_
  refine AR.keep [1, 3, 4] (t' := [(1, .ptr 0 0 none), (3, .own 1 1000000), (4, .sc (.int .i64 0))]) (by kernel_rfl) ?_
  obtain ⟨v, hv, H⟩ := Option.bind_eq_some_iff.1 H
  refine AR.into (by kernel_rfl) ?_
  refine podestaref01_Whole_l0_walk h1 r c0 hc0 v ?_ 12 0 rfl ([] : List Int) hv
  refine AR.seg hG hm 1 [3] (k' := [.code [1, 1, 1, 0], .code [1, 1, 1, 1]]) (t' := [(3, .own 1 1000000)]) (h' := [.box 25 [.arr .u64 12 h1], .row 5 (List.map (intA .u8) v) 1000000 true]) (by kernel_rfl) ?_
  refine AR.reg hm podestaref01_Whole_k4 (by kernel_rfl) ?_
  refine DK.seg hG 1 [33] (t' := [(33, .own 1 1000000)]) (h' := [.box 25 [.arr .u64 12 h1], .row 5 (List.map (intA .u8) v) 1000000 true]) (by kernel_rfl) rfl ?_
  refine DK.op' [34] (t' := [(34, .sc (.string (strOfNums v)))]) (h' := [.box 25 [.arr .u64 12 h1], .row 5 (List.map (intA .u8) v) 1000000 true]) (LSpec.bytesStr hG v (by kernel_rfl)) (by kernel_rfl) rfl (by kernel_rfl) rfl ?_
  refine DK.seg hG 1 [2] (t' := [(2, .sc (.string (strOfNums v)))]) (h' := [.box 25 [.arr .u64 12 h1], .row 5 (List.map (intA .u8) v) 1000000 true]) (by kernel_rfl) rfl ?_
  refine DK.done (by kernel_rfl) (by kernel_rfl) ?_
  obtain rfl := Option.some.inj H
  exact AR.ret0 (fn := Try.f33) hG Try.func33 (by kernel_rfl) hc0 (r0 := .sc (.string (strOfNums v))) (by kernel_rfl) (WkV.refl _)

def bit01 (b : Bool) : Int := if b then 49 else 48
theorem Whole_l1s_eq : ∀ (l : List Bool) (out : List Int), out.length + l.length ≤ 10000 → podestaref01_Whole_l1s l out = some (out ++ l.map bit01)
  | [], out, _ => by rw [podestaref01_Whole_l1s]; simp
  | x :: l, out, h => by
      rw [List.length_cons] at h
      have step : ∀ q : Int, podestaref01_Whole_l1s l (out ++ [q]) = some (out ++ q :: l.map bit01) := fun q => by
        rw [Whole_l1s_eq l (out ++ [q]) (by rw [List.length_append, List.length_cons, List.length_nil]; omega), List.append_assoc]; rfl
      rw [podestaref01_Whole_l1s, fitO_eq (by rw [List.length_cons, List.length_nil]; omega), fitO_eq (by rw [List.length_cons, List.length_nil]; omega)]
      cases x
      · exact step 48
      · exact step 49
def wholeS (h : List Int) : Nat → Nat → List Int
  | 0, _ => []
  | r + 1, i => (bitsL (h.getD i 0) (sizeN i)).map bit01 ++ wholeS h r (i + 1)
theorem Whole_l0s_eq (h : List Int) : ∀ (r i : Nat) (out : List Int), out.length + r * 64 ≤ 10000 → podestaref01_Whole_l0s h r i out = some (out ++ wholeS h r i)
  | 0, i, out, _ => by rw [podestaref01_Whole_l0s, wholeS, List.append_nil]
  | r + 1, i, out, hh => by
      have hs := sizeT_in ((i : Nat) : Int)
      have hn : sizeN i ≤ 64 := by unfold sizeN; omega
      rw [podestaref01_Whole_l0s, bitsO_size, Option.bind_some, Whole_l1s_eq _ out (by rw [bitsL_len]; omega), Option.bind_some, Whole_l0s_eq h r (i + 1) _ (by rw [List.length_append, List.length_map, bitsL_len]; omega), wholeS, List.append_assoc]
def wholeT (h : List Int) : ByteArray := strOfNums (wholeS h 12 0)
theorem podestaref01_Whole_ok (h : List Int) : ACalls Try.prog tab.S 33 [.arr .u64 12 h] [] (.sc (.string (wholeT h))) [] := by
  refine podestaref01_Whole_walk h _ ?_
  rw [podestaref01_Whole_raw, Whole_l0s_eq h 12 0 [] (by decide)]
  rfl
theorem text_whole_len (c : Cube) (h : List Int) : ∀ (r i : Nat), (textS c r i).length = (wholeS h r i).length
  | 0, _ => rfl
  | r + 1, i => by
      rw [textS, wholeS, List.length_append, List.length_append, List.length_zipWith, bitsL_len, bitsL_len, List.length_map, bitsL_len, Nat.min_self, text_whole_len c h r (i + 1)]

end Go.Proofs.Ytadolbhmdimbkaa

set_option linter.unusedVariables false
set_option linter.unusedSimpArgs false
set_option maxRecDepth 100000
set_option maxHeartbeats 4000000
namespace Go.Proofs.Ytadolbhmdimbkaa
open Go.Sh
def hasB (s w : List Int) (j : Nat) : Bool := (s.getD j 0 == 120) || (s.getD j 0 == w.getD j 0)
/-- a text and a header, sign by sign -/
def hasL : List Int → List Int → Bool
  | a :: s, b :: w => ((a == 120) || (a == b)) && hasL s w
  | _, _ => true
theorem chr_ok (v c : Bool) : 0 ≤ chrB v c ∧ chrB v c ≤ 255 := by cases v <;> cases c <;> decide
theorem bit01_ok (b : Bool) : 0 ≤ bit01 b ∧ bit01 b ≤ 255 := by cases b <;> decide
theorem hasL_append : ∀ (a b c d : List Int), a.length = b.length → hasL (a ++ c) (b ++ d) = (hasL a b && hasL c d)
  | [], [], c, d, _ => by rw [List.nil_append, List.nil_append]; show hasL c d = (true && hasL c d); rw [Bool.true_and]
  | [], _ :: _, _, _, h => by cases h
  | _ :: _, [], _, _, h => by cases h
  | x :: a, y :: b, c, d, h => by
      rw [List.cons_append, List.cons_append, hasL, hasL, hasL_append a b c d (by simpa using h), Bool.and_assoc]
/-- a field's signs: the value's bits where they are asked for -/
def bitsHas : List Bool → List Bool → List Bool → Bool
  | v :: vs, c :: cs, h :: hs => ((!c) || (v == h)) && bitsHas vs cs hs
  | _, _, _ => true
theorem hasL_bits : ∀ (vs cs hs : List Bool), vs.length = cs.length → cs.length = hs.length → hasL (List.zipWith chrB vs cs) (hs.map bit01) = bitsHas vs cs hs
  | [], [], [], _, _ => rfl
  | v :: vs, c :: cs, h :: hs, h1, h2 => by
      rw [List.zipWith_cons_cons, List.map_cons, hasL, bitsHas, hasL_bits vs cs hs (by simpa using h1) (by simpa using h2)]
      cases v <;> cases c <;> cases h <;> rfl
  | [], _ :: _, _, h1, _ => by cases h1
  | _ :: _, [], _, h1, _ => by cases h1
  | _, [], _ :: _, _, h2 => by cases h2
  | _, _ :: _, [], _, h2 => by cases h2

end Go.Proofs.Ytadolbhmdimbkaa

set_option linter.unusedVariables false
set_option linter.unusedSimpArgs false
set_option maxRecDepth 100000
set_option maxHeartbeats 4000000
namespace Go.Proofs.Ytadolbhmdimbkaa
open Go.Sh
theorem bitE_nat {n k : Nat} (hn : n < 18446744073709551616) (hk : k < 64) : bitE ((n : Nat) : Int) ((k : Nat) : Int) = n.testBit k := by
  have hw : ∀ z : Int, IntKind.u64.wrap z = z % 18446744073709551616 := fun z => by simp [IntKind.wrap, IntKind.bits, IntKind.signed]
  unfold bitE
  have e1 : IntKind.u64.wrap ((k : Nat) : Int) = ((k : Nat) : Int) := by rw [hw]; omega
  have e2 : min k (IntKind.u64).bits = k := Nat.min_eq_left (by show k ≤ 64; omega)
  have e3 : Int.fdiv ((n : Nat) : Int) (2 ^ k) = ((n / 2 ^ k : Nat) : Int) := by
    rw [Int.fdiv_eq_ediv_of_nonneg _ (Int.le_of_lt (pow_pos2 k))]
    norm_cast
  rw [e1, Int.toNat_natCast, e2, e3]
  have hlt : n / 2 ^ k < 18446744073709551616 := Nat.lt_of_le_of_lt (Nat.div_le_self _ _) hn
  have e4 : (BitVec.ofInt 64 ((n / 2 ^ k : Nat) : Int) &&& BitVec.ofInt 64 1).toNat = (n / 2 ^ k) % 2 := by
    rw [BitVec.toNat_and, BitVec.toNat_ofInt, BitVec.toNat_ofInt]
    have a1 : (((n / 2 ^ k : Nat) : Int) % ((2 ^ 64 : Nat) : Int)).toNat = n / 2 ^ k := by
      generalize n / 2 ^ k = q at hlt ⊢
      have p : ((2 ^ 64 : Nat) : Int) = 18446744073709551616 := by decide
      rw [p]; omega
    have a2 : ((1 : Int) % ((2 ^ 64 : Nat) : Int)).toNat = 1 := by decide
    rw [a1, a2, Nat.and_one_is_mod]
  rw [e4, hw, Nat.testBit_eq_decide_div_mod_eq]
  rcases Nat.mod_two_eq_zero_or_one (n / 2 ^ k) with q | q <;> rw [q] <;> rfl
theorem bitsHas_iff (v c h : Int) : ∀ n : Nat, bitsHas (bitsL v n) (bitsL c n) (bitsL h n) = true ↔ ∀ k, k < n → bitE c (k : Int) = true → bitE v (k : Int) = bitE h (k : Int)
  | 0 => by simp [bitsL, bitsHas]
  | n + 1 => by
      rw [bitsL, bitsL, bitsL, bitsHas, Bool.and_eq_true, bitsHas_iff v c h n]
      constructor
      · rintro ⟨h1, h2⟩ k hk hc
        rcases Nat.lt_or_ge k n with q | q
        · exact h2 k q hc
        · have : k = n := by omega
          subst this
          rw [hc] at h1
          simpa using h1
      · intro hh
        refine ⟨?_, fun k hk => hh k (by omega)⟩
        cases hc : bitE c (n : Int)
        · rfl
        · rw [hh n (by omega) hc]; simp
/-- a field: in it just if the bits that are given agree -/
theorem field_has {v c h n : Nat} (hv : v < 18446744073709551616) (hc : c < 18446744073709551616) (hh : h < 18446744073709551616) (hn : n ≤ 64) (hcn : c < 2 ^ n) (hvc : ∀ k, v.testBit k = true → c.testBit k = true) :
    bitsHas (bitsL (v : Int) n) (bitsL (c : Int) n) (bitsL (h : Int) n) = decide (h &&& c = v) := by
  rw [Bool.eq_iff_iff, bitsHas_iff, decide_eq_true_eq]
  have hcb : ∀ k, n ≤ k → c.testBit k = false := fun k hk => Nat.testBit_lt_two_pow (Nat.lt_of_lt_of_le hcn (Nat.pow_le_pow_right (by decide) hk))
  constructor
  · intro hb
    apply Nat.eq_of_testBit_eq
    intro k
    rw [Nat.testBit_and]
    cases hk : c.testBit k
    · rw [Bool.and_false]
      cases hq : v.testBit k
      · rfl
      · rw [hvc k hq] at hk; cases hk
    · rw [Bool.and_true]
      have hkn : k < n := by
        rcases Nat.lt_or_ge k n with q | q
        · exact q
        · rw [hcb k q] at hk; cases hk
      have := hb k hkn (by rw [bitE_nat hc (by omega)]; exact hk)
      rw [bitE_nat hv (by omega), bitE_nat hh (by omega)] at this
      exact this.symm
  · intro e k hk hcK
    rw [bitE_nat hc (by omega)] at hcK
    rw [bitE_nat hv (by omega), bitE_nat hh (by omega), ← e, Nat.testBit_and, hcK, Bool.and_true]

end Go.Proofs.Ytadolbhmdimbkaa

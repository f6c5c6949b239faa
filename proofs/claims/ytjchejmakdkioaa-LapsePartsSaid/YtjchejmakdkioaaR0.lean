import Derived.Test.YtjchejmakdkioaaS4
import Derived.Test.YtjchejmakdkioaaShX
set_option linter.unusedVariables false
set_option maxRecDepth 100000
set_option maxHeartbeats 4000000
namespace Go.Proofs.Ytjchejmakdkioaa
open Go.Sh
/-! ### podestaref01.Size: function 69 -/
noncomputable def podestaref01_Size_F : Go.Sh.Fn := ⟨69, bodyOf Try.f69, 13⟩
def podestaref01_Size_k1 : List Kd := [.pure, .pure, .pure, .read, .pure]
def podestaref01_Size_k0 : List Kd := [.pure, .pure, .pure, .pure, .pure, .pure]
def podestaref01_Size_raw (field : Int) : Option (Int) :=
  (bif ((decide (field < 0)) || (decide (field > 11))) then
    some 0
  else
    (ixO [16, 48, 48, 16, 12, 4, 32, 32, 8, 8, 12, 12] field).bind fun x =>
    some x)
theorem podestaref01_Size_walk (field : Int) (r : Int) (H : podestaref01_Size_raw field = some r) :
    ACalls Try.prog tab.S 69 [.sc (.int .i64 field)] [] (.sc (.int .i64 r)) [] := by
  have hG := tab_ok
  have hm := mixed
  refine ACalls.of_AR (G := tab) podestaref01_Size_F (fn := Try.f69) Try.func69 (by kernel_rfl) (by kernel_rfl) (by kernel_rfl) (Nat.le_of_ble_eq_true (by kernel_rfl)) ?_
  intro c0 hc0
  replace hc0 : c0.m.length = 0 := hc0
  rw [podestaref01_Size_raw] at H
  refine AR.seg hG hm 4 [0] (k' := [.code [1, 0, 0], .code [1, 0, 1], .code [1, 1]]) (t' := [(0, .sc (.int .i64 field))]) (h' := []) (by kernel_rfl) ?_
  refine AR.reg hm podestaref01_Size_k0 (by kernel_rfl) ?_
  refine DK.seg hG 3 [0, 5] (t' := [(0, .sc (.int .i64 field)), (5, .sc (.bool (decide (field < 0))))]) (h' := []) (by kernel_rfl) rfl ?_
  refine DK.mux 5 (decide (field < 0)) (j := 6) (h' := []) (by kernel_rfl) (fun z => [(0, .sc (.int .i64 field)), (8, .sc (.bool (z || (decide (field > 11)))))]) ?J1 (fun hb J => ?ht1) (fun hb J => ?hf1)
  case ht1 =>
    exact DK.seg hG 3 [0, 8] (by kernel_rfl) rfl J
  case hf1 =>
    exact DK.seg hG 3 [0, 8] (by kernel_rfl) rfl J
  refine DK.done (by kernel_rfl) (by kernel_rfl) ?_
  refine AR.cond (.tmp 8) ((decide (field < 0)) || (decide (field > 11))) (by kernel_rfl) (by kernel_rfl) (fun hb => ?ht2) (fun hb => ?hf2)
  case ht2 =>
    replace H := cond_t hb H
    refine AR.seg hG hm 2 [2] (k' := [.code [1, 0, 1, 0, 1], .code [1, 1]]) (t' := [(2, .sc (.int .i64 0))]) (h' := []) (by kernel_rfl) ?_
    obtain rfl := Option.some.inj H
    exact AR.ret0 (fn := Try.f69) hG Try.func69 (by kernel_rfl) hc0 (r0 := .sc (.int .i64 0)) (by kernel_rfl) (WkV.refl _)
  case hf2 =>
    replace H := cond_f hb H
    refine AR.seg hG hm 2 [0] (k' := [.code [1, 1, 0], .code [1, 1, 1]]) (t' := [(0, .sc (.int .i64 field))]) (h' := []) (by kernel_rfl) ?_
    refine AR.reg hm podestaref01_Size_k1 (by kernel_rfl) ?_
    refine DK.seg hG 2 [9, 10] (t' := [(9, .sl 3 (List.map (intA .i64) [16, 48, 48, 16, 12, 4, 32, 32, 8, 8, 12, 12]) true), (10, .sc (.int .i64 field))]) (h' := []) (by kernel_rfl) rfl ?_
    obtain ⟨x, hv, H⟩ := Option.bind_eq_some_iff.1 H
    refine DK.op' [11] (t' := [(11, .ep [.sc (.int .i64 x)] 0 none)]) (h' := []) (LSpec.index' (r := .sc (.int .i64 x)) (fs := [.sc (.int .i64 x)]) hG (rows := List.map (intA .i64) [16, 48, 48, 16, 12, 4, 32, 32, 8, 8, 12, 12]) (j := field) (by kernel_rfl) (ixO_map hv _) (by kernel_rfl)) (by kernel_rfl) rfl (by kernel_rfl) rfl ?_
    refine DK.seg hG 2 [2] (t' := [(2, .sc (.int .i64 x))]) (h' := []) (by kernel_rfl) rfl ?_
    refine DK.done (by kernel_rfl) (by kernel_rfl) ?_
    obtain rfl := Option.some.inj H
    exact AR.ret0 (fn := Try.f69) hG Try.func69 (by kernel_rfl) hc0 (r0 := .sc (.int .i64 x)) (by kernel_rfl) (WkV.refl _)

/-! ### podestaref01.Fits: function 68 -/
noncomputable def podestaref01_Fits_F : Go.Sh.Fn := ⟨68, bodyOf Try.f68, 10⟩
def podestaref01_Fits_k0 : List Kd := [.pure, .pure, .pure, .pure, .pure, .pure]
def podestaref01_Fits (v : Int) (size : Int) : Bool :=
  (decide (v < (IntKind.u64.wrap (1 * 2 ^ (min ((IntKind.u64.wrap size)).toNat (IntKind.u64).bits)))))
theorem podestaref01_Fits_walk (v : Int) (size : Int) (r : Bool) (H : podestaref01_Fits v size = r) :
    ACalls Try.prog tab.S 68 [.sc (.int .u64 v), .sc (.int .i64 size)] [] (.sc (.bool r)) [] := by
  have hG := tab_ok
  have hm := mixed
  refine ACalls.of_AR (G := tab) podestaref01_Fits_F (fn := Try.f68) Try.func68 (by kernel_rfl) (by kernel_rfl) (by kernel_rfl) (Nat.le_of_ble_eq_true (by kernel_rfl)) ?_
  intro c0 hc0
  replace hc0 : c0.m.length = 0 := hc0
  rw [podestaref01_Fits] at H
  refine AR.seg hG hm 3 [0, 1] (k' := [.code [1, 0], .code [1, 1]]) (t' := [(0, .sc (.int .u64 v)), (1, .sc (.int .i64 size))]) (h' := []) (by kernel_rfl) ?_
  refine AR.reg hm podestaref01_Fits_k0 (by kernel_rfl) ?_
  refine DK.seg hG 3 [5, 7] (t' := [(5, .sc (.int .u64 v)), (7, .sc (.int .u64 (IntKind.u64.wrap size)))]) (h' := []) (by kernel_rfl) rfl ?_
  refine DK.op' [5, 8] (t' := [(5, .sc (.int .u64 v)), (8, .sc (.int .u64 (IntKind.u64.wrap (1 * 2 ^ (min ((IntKind.u64.wrap size)).toNat (IntKind.u64).bits)))))]) (h' := []) (LSpec.shl (k := .u64) (a := 1) (k' := .u64) (b := (IntKind.u64.wrap size)) (wrapU_nonneg _) (by kernel_rfl)) (by kernel_rfl) rfl (by kernel_rfl) rfl ?_
  refine DK.seg hG 2 [4] (t' := [(4, .sc (.bool (decide (v < (IntKind.u64.wrap (1 * 2 ^ (min ((IntKind.u64.wrap size)).toNat (IntKind.u64).bits)))))))]) (h' := []) (by kernel_rfl) rfl ?_
  refine DK.done (by kernel_rfl) (by kernel_rfl) ?_
  subst H
  exact AR.ret0 (fn := Try.f68) hG Try.func68 (by kernel_rfl) hc0 (r0 := .sc (.bool (decide (v < (IntKind.u64.wrap (1 * 2 ^ (min ((IntKind.u64.wrap size)).toNat (IntKind.u64).bits))))))) (by kernel_rfl) (WkV.refl _)
theorem podestaref01_Fits_calls (v : Int) (size : Int) : ACalls Try.prog tab.S 68 [.sc (.int .u64 v), .sc (.int .i64 size)] [] (.sc (.bool (podestaref01_Fits v size))) [] := podestaref01_Fits_walk v size _ rfl

/-! ### podestaref01.Bits: function 72 -/
noncomputable def podestaref01_Bits_F : Go.Sh.Fn := ⟨72, bodyOf Try.f72, 23⟩
def podestaref01_Bits_k0 : List Kd := [.pure, .pure, .pure, .pure, .pure, .pure, .pure, .pure, .loud, .pure]
def podestaref01_Bits_l0 (v : Int) : Nat → Int → List Bool → Option ((List Bool))
  | 0, _, _ => none
  | m + 1, k1, out =>
    (bif (decide (k1 ≥ 0)) then
    fitO (out.length + [((IntKind.u64.wrap ((BitVec.ofInt 64 (Int.fdiv v (2 ^ (min ((IntKind.u64.wrap k1)).toNat (IntKind.u64).bits))) &&& BitVec.ofInt 64 1).toNat)) == 1)].length) 1 (
    podestaref01_Bits_l0 v m (IntKind.i64.wrap (k1 - 1)) (out ++ [((IntKind.u64.wrap ((BitVec.ofInt 64 (Int.fdiv v (2 ^ (min ((IntKind.u64.wrap k1)).toNat (IntKind.u64).bits))) &&& BitVec.ofInt 64 1).toNat)) == 1)]))
  else
    some out)
theorem podestaref01_Bits_l0_walk (q0 : Nat) (v : Int) (size : Int)  (r : (List Bool)) (c0 : Ctx) (hc0 : c0.m.length = 0) (res : (List Bool)) (J : AR Try.prog tab podestaref01_Bits_F c0 (Rp tab.S c0 (.sl 4 (List.map boolA r) false) []) [.code [1, 1, 1]] [(5, .own 0 0)] [.row 4 (List.map boolA res) 0 true]) :
    ∀ (m : Nat) (k1 : Int) (out : List Bool) (H : podestaref01_Bits_l0 v m k1 out = some res), AR Try.prog tab podestaref01_Bits_F c0 (Rp tab.S c0 (.sl 4 (List.map boolA r) false) []) [.code [1, 1, 0, 1, 0, 0], .loop [1, 1, 0, 1, 0], .blk 0, .code [1, 1, 1]] [(0, .sc (.int .u64 v)), (5, .own 0 0), (6, .sc (.int .i64 k1))] [.row 4 (List.map boolA out) 0 true] := by
  have hG := tab_ok
  have hm := mixed
  intro m
  induction m with
  | zero => intro k1 out H; cases H
  | succ m ih =>
    intro k1 out H
    rw [podestaref01_Bits_l0] at H
    refine AR.seg hG hm 3 [0, 5, 6, 10] (k' := [.code [1, 1, 0, 1, 0, 0, 0, 1], .code [1, 1, 0, 1, 0, 0, 1], .loop [1, 1, 0, 1, 0], .blk 0, .code [1, 1, 1]]) (t' := [(0, .sc (.int .u64 v)), (5, .own 0 0), (6, .sc (.int .i64 k1)), (10, .sc (.bool (decide (k1 ≥ 0))))]) (h' := [.row 4 (List.map boolA out) 0 true]) (by kernel_rfl) ?_
    refine AR.cond (.tmp 10) (decide (k1 ≥ 0)) (by kernel_rfl) (by kernel_rfl) (fun hb => ?ht4) (fun hb => ?hf4)
    case ht4 =>
      replace H := cond_t hb H
      refine AR.seg hG hm 3 [0, 5, 6] (k' := [.code [1, 1, 0, 1, 0, 0, 1, 0, 0], .blk 1, .code [1, 1, 0, 1, 0, 0, 1, 1], .loop [1, 1, 0, 1, 0], .blk 0, .code [1, 1, 1]]) (t' := [(0, .sc (.int .u64 v)), (5, .own 0 0), (6, .sc (.int .i64 k1))]) (h' := [.row 4 (List.map boolA out) 0 true]) (by kernel_rfl) ?_
      refine AR.reg hm podestaref01_Bits_k0 (by kernel_rfl) ?_
      refine DK.seg hG 4 [0, 6, 13, 14, 16] (t' := [(0, .sc (.int .u64 v)), (6, .sc (.int .i64 k1)), (13, .own 0 0), (14, .sc (.int .u64 v)), (16, .sc (.int .u64 (IntKind.u64.wrap k1)))]) (h' := [.row 4 (List.map boolA out) 0 true]) (by kernel_rfl) rfl ?_
      refine DK.op' [0, 6, 13, 17] (t' := [(0, .sc (.int .u64 v)), (6, .sc (.int .i64 k1)), (13, .own 0 0), (17, .sc (.int .u64 (Int.fdiv v (2 ^ (min ((IntKind.u64.wrap k1)).toNat (IntKind.u64).bits)))))]) (h' := [.row 4 (List.map boolA out) 0 true]) (LSpec.shr (k := .u64) (a := v) (k' := .u64) (b := (IntKind.u64.wrap k1)) (wrapU_nonneg _) (by kernel_rfl)) (by kernel_rfl) rfl (by kernel_rfl) rfl ?_
      refine DK.seg hG 3 [0, 6, 13, 20] (t' := [(0, .sc (.int .u64 v)), (6, .sc (.int .i64 k1)), (13, .own 0 0), (20, .sl 4 (List.map boolA [((IntKind.u64.wrap ((BitVec.ofInt 64 (Int.fdiv v (2 ^ (min ((IntKind.u64.wrap k1)).toNat (IntKind.u64).bits))) &&& BitVec.ofInt 64 1).toNat)) == 1)]) true)]) (h' := [.row 4 (List.map boolA out) 0 true]) (by kernel_rfl) rfl ?_
      obtain ⟨hfit, H⟩ := fitO_some H
      refine DK.op' [0, 6, 21] (t' := [(0, .sc (.int .u64 v)), (6, .sc (.int .i64 k1)), (21, .own 0 1)]) (h' := [.row 4 (List.map boolA (out ++ [((IntKind.u64.wrap ((BitVec.ofInt 64 (Int.fdiv v (2 ^ (min ((IntKind.u64.wrap k1)).toNat (IntKind.u64).bits))) &&& BitVec.ofInt 64 1).toNat)) == 1)])) 1 true]) (LSpec.append' hG boolA out [((IntKind.u64.wrap ((BitVec.ofInt 64 (Int.fdiv v (2 ^ (min ((IntKind.u64.wrap k1)).toNat (IntKind.u64).bits))) &&& BitVec.ofInt 64 1).toNat)) == 1)] 0 0 4 1 hfit (by kernel_rfl)) (by kernel_rfl) (by kernel_rfl) (by kernel_rfl) rfl ?_
      refine DK.seg hG 1 [0, 5, 6] (t' := [(0, .sc (.int .u64 v)), (5, .own 0 1), (6, .sc (.int .i64 k1))]) (h' := [.row 4 (List.map boolA (out ++ [((IntKind.u64.wrap ((BitVec.ofInt 64 (Int.fdiv v (2 ^ (min ((IntKind.u64.wrap k1)).toNat (IntKind.u64).bits))) &&& BitVec.ofInt 64 1).toNat)) == 1)])) 1 true]) (by kernel_rfl) rfl ?_
      refine DK.done (by kernel_rfl) (by kernel_rfl) ?_
      refine AR.seg hG hm 2 [0, 5, 6] (k' := [.loop [1, 1, 0, 1, 0], .blk 0, .code [1, 1, 1]]) (t' := [(0, .sc (.int .u64 v)), (5, .own 0 1), (6, .sc (.int .i64 (IntKind.i64.wrap (k1 - 1))))]) (h' := [.row 4 (List.map boolA (out ++ [((IntKind.u64.wrap ((BitVec.ofInt 64 (Int.fdiv v (2 ^ (min ((IntKind.u64.wrap k1)).toNat (IntKind.u64).bits))) &&& BitVec.ofInt 64 1).toNat)) == 1)])) 1 true]) (by kernel_rfl) ?_
      refine AR.keep [0, 5, 6] (t' := [(0, .sc (.int .u64 v)), (5, .own 0 1), (6, .sc (.int .i64 (IntKind.i64.wrap (k1 - 1))))]) (by kernel_rfl) ?_
      refine AR.norm' 0 hc0 (t' := [(0, .sc (.int .u64 v)), (5, .own 0 0), (6, .sc (.int .i64 (IntKind.i64.wrap (k1 - 1))))]) (h' := [.row 4 (List.map boolA (out ++ [((IntKind.u64.wrap ((BitVec.ofInt 64 (Int.fdiv v (2 ^ (min ((IntKind.u64.wrap k1)).toNat (IntKind.u64).bits))) &&& BitVec.ofInt 64 1).toNat)) == 1)])) 0 true]) (by kernel_rfl) ?_
      refine AR.loop_round ?_
      exact ih (IntKind.i64.wrap (k1 - 1)) (out ++ [((IntKind.u64.wrap ((BitVec.ofInt 64 (Int.fdiv v (2 ^ (min ((IntKind.u64.wrap k1)).toNat (IntKind.u64).bits))) &&& BitVec.ofInt 64 1).toNat)) == 1)]) H
    case hf4 =>
      replace H := cond_f hb H
      refine AR.seg hG hm 1 [5] (k' := [.code [1, 1, 1]]) (t' := [(5, .own 0 0)]) (h' := [.row 4 (List.map boolA out) 0 true]) (by kernel_rfl) ?_
      refine AR.keep [5] (t' := [(5, .own 0 0)]) (by kernel_rfl) ?_
      obtain rfl := Option.some.inj H
      exact J
def podestaref01_Bits_raw (q0 : Nat) (v : Int) (size : Int) : Option ((List Bool)) :=
  (podestaref01_Bits_l0 v q0 (IntKind.i64.wrap (size - 1)) ([] : List Bool)).bind fun v1 =>
  some v1
theorem podestaref01_Bits_walk (q0 : Nat) (v : Int) (size : Int) (r : (List Bool)) (H : podestaref01_Bits_raw q0 v size = some r) :
    ACalls Try.prog tab.S 72 [.sc (.int .u64 v), .sc (.int .i64 size)] [] (.sl 4 (List.map boolA r) false) [] := by
  have hG := tab_ok
  have hm := mixed
  refine ACalls.of_AR (G := tab) podestaref01_Bits_F (fn := Try.f72) Try.func72 (by kernel_rfl) (by kernel_rfl) (by kernel_rfl) (Nat.le_of_ble_eq_true (by kernel_rfl)) ?_
  intro c0 hc0
  replace hc0 : c0.m.length = 0 := hc0
  rw [podestaref01_Bits_raw] at H
  refine AR.seg hG hm 8 [0, 5, 6] (k' := [.code [1, 1, 0, 1, 0], .blk 0, .code [1, 1, 1]]) (t' := [(0, .sc (.int .u64 v)), (5, .sl 0 [] true), (6, .sc (.int .i64 (IntKind.i64.wrap (size - 1))))]) (h' := []) (by kernel_rfl) ?_
  refine AR.adopt' 5 4 (t' := [(5, .own 0 0), (0, .sc (.int .u64 v)), (6, .sc (.int .i64 (IntKind.i64.wrap (size - 1))))]) (h' := [.row 4 (List.map boolA ([] : List Bool)) 0 true]) (by kernel_rfl) ?_
  refine AR.keep [0, 5, 6] (t' := [(0, .sc (.int .u64 v)), (5, .own 0 0), (6, .sc (.int .i64 (IntKind.i64.wrap (size - 1))))]) (by kernel_rfl) ?_
  obtain ⟨v1, hv, H⟩ := Option.bind_eq_some_iff.1 H
  refine AR.into (by kernel_rfl) ?_
  refine podestaref01_Bits_l0_walk q0 v size r c0 hc0 v1 ?_ q0 (IntKind.i64.wrap (size - 1)) ([] : List Bool) hv
  refine AR.seg hG hm 2 [4] (k' := [.code [1, 1, 1, 1]]) (t' := [(4, .own 0 0)]) (h' := [.row 4 (List.map boolA v1) 0 true]) (by kernel_rfl) ?_
  obtain rfl := Option.some.inj H
  exact AR.ret0 (fn := Try.f72) hG Try.func72 (by kernel_rfl) hc0 (r0 := .sl 4 (List.map boolA v1) false) (by kernel_rfl) (WkV.refl _)

/-! ### podestaref04.span: function 63 -/
noncomputable def podestaref04_span_F : Go.Sh.Fn := ⟨63, bodyOf Try.f63, 12⟩
def podestaref04_span_k0 : List Kd := [.pure, .pure, .pure, .pure, .pure, .pure, .pure, .pure]
def podestaref04_span (n : Int) (most : Int) : Bool :=
  ((decide (n ≥ 0)) && (decide (n ≤ most)))
theorem podestaref04_span_walk (n : Int) (most : Int) (r : Bool) (H : podestaref04_span n most = r) :
    ACalls Try.prog tab.S 63 [.sc (.int .i64 n), .sc (.int .i64 most)] [] (.sc (.bool r)) [] := by
  have hG := tab_ok
  have hm := mixed
  refine ACalls.of_AR (G := tab) podestaref04_span_F (fn := Try.f63) Try.func63 (by kernel_rfl) (by kernel_rfl) (by kernel_rfl) (Nat.le_of_ble_eq_true (by kernel_rfl)) ?_
  intro c0 hc0
  replace hc0 : c0.m.length = 0 := hc0
  rw [podestaref04_span] at H
  refine AR.seg hG hm 3 [0, 1] (k' := [.code [1, 0], .code [1, 1]]) (t' := [(0, .sc (.int .i64 n)), (1, .sc (.int .i64 most))]) (h' := []) (by kernel_rfl) ?_
  refine AR.reg hm podestaref04_span_k0 (by kernel_rfl) ?_
  refine DK.seg hG 3 [0, 1, 7] (t' := [(0, .sc (.int .i64 n)), (1, .sc (.int .i64 most)), (7, .sc (.bool (decide (n ≥ 0))))]) (h' := []) (by kernel_rfl) rfl ?_
  refine DK.mux 7 (decide (n ≥ 0)) (j := 7) (h' := []) (by kernel_rfl) (fun z => [(11, .sc (.bool (z && (decide (n ≤ most)))))]) ?J1 (fun hb J => ?ht1) (fun hb J => ?hf1)
  case ht1 =>
    exact DK.seg hG 4 [11] (by kernel_rfl) rfl J
  case hf1 =>
    exact DK.seg hG 4 [11] (by kernel_rfl) rfl J
  refine DK.seg hG 1 [4] (t' := [(4, .sc (.bool ((decide (n ≥ 0)) && (decide (n ≤ most)))))]) (h' := []) (by kernel_rfl) rfl ?_
  refine DK.done (by kernel_rfl) (by kernel_rfl) ?_
  subst H
  exact AR.ret0 (fn := Try.f63) hG Try.func63 (by kernel_rfl) hc0 (r0 := .sc (.bool ((decide (n ≥ 0)) && (decide (n ≤ most))))) (by kernel_rfl) (WkV.refl _)
theorem podestaref04_span_calls (n : Int) (most : Int) : ACalls Try.prog tab.S 63 [.sc (.int .i64 n), .sc (.int .i64 most)] [] (.sc (.bool (podestaref04_span n most))) [] := podestaref04_span_walk n most _ rfl

end Go.Proofs.Ytjchejmakdkioaa

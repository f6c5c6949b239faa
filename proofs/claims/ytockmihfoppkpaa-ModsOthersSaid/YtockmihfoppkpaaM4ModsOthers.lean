import Derived.Test.YtockmihfoppkpaaM3ModsOthers
set_option linter.unusedVariables false
set_option linter.unusedSimpArgs false
set_option maxRecDepth 100000
set_option maxHeartbeats 4000000
namespace Go.Proofs.Ytockmihfoppkpaa
open Go.Sh
/-! ### podestalaw07.ModsRoom: function 7 -/
noncomputable def podestalaw07_ModsRoom_F : Go.Sh.Fn := ⟨7, bodyOf Try.f7, 102⟩
def podestalaw07_ModsRoom_k1 : List Kd := [.pure, .pure]
def podestalaw07_ModsRoom_k5 : List Kd := [.pure, .pure, .pure, .pure, .pure, .pure, .pure, .pure, .read, .pure, .pure, .pure, .pure, .pure, .pure, .pure, .pure, .read, .pure, .pure, .pure, .pure]
def podestalaw07_ModsRoom_k6 : List Kd := [.pure, .pure, .pure, .pure, .pure, .pure, .pure]
def podestalaw07_ModsRoom_k7 : List Kd := [.pure, .pure, .pure, .pure, .pure, .pure, .pure, .pure, .pure, .pure, .pure, .pure, .pure, .pure, .pure, .pure, .pure, .pure, .pure, .pure, .pure, .pure, .pure]
def podestalaw07_ModsRoom_k4 : List Kd := [.pure, .read, .pure, .pure, .pure, .pure, .pure, .pure, .pure]
def podestalaw07_ModsRoom_k3 : List Kd := [.pure, .read, .pure, .pure, .pure, .pure, .pure, .pure]
def podestalaw07_ModsRoom_k2 : List Kd := [.pure, .pure, .pure, .pure]
def podestalaw07_ModsRoom_k0 : List Kd := [.pure, .pure, .pure, .pure, .pure, .read, .pure, .pure, .pure, .pure, .pure, .read, .pure, .pure]
def podestalaw07_ModsRoom_l0s (m1 : Mod) (n : Int) : List Rule → Bool → Int × Bool
  | [], there =>
    (n, there)
  | x2 :: rest, there =>
    podestalaw07_ModsRoom_l0s m1 n rest (there || (((x2.Match.Value == m1.Match.Value) && (x2.Match.Care == m1.Match.Care)) && (x2.Prio == m1.Prio)))
theorem podestalaw07_ModsRoom_l0_walk (l : List Rule) (m1 : Mod) (room : Int) (x : (List Rule) × Int) (x1 : (List Rule) × Int) (n : Int) (f_l : Bool) (r : Bool) (c0 : Ctx) (hc0 : c0.m.length = 0) (res : Int × Bool) (J : AR Try.prog tab podestalaw07_ModsRoom_F c0 (Rp tab.S c0 (.sc (.bool r)) []) [.code [1, 1, 1, 1, 1, 1, 1]] [(0, .sl 40 (List.map Rule.av l) f_l), (7, .sc (.int .i64 res.1)), (9, .sc (.int .i64 x.2)), (11, .sc (.int .i64 x1.2)), (12, .sc (.bool res.2))] [.box 30 (Mod.ch m1)]) :
    ∀ (rest : List Rule) (i : Nat) (hd : l.drop i = rest) (there : Bool) (H : podestalaw07_ModsRoom_l0s m1 n rest there = res), AR Try.prog tab podestalaw07_ModsRoom_F c0 (Rp tab.S c0 (.sc (.bool r)) []) [.code [1, 1, 1, 1, 1, 1, 0, 1, 0, 0], .loop [1, 1, 1, 1, 1, 1, 0, 1, 0], .blk 0, .code [1, 1, 1, 1, 1, 1, 1]] [(0, .sl 40 (List.map Rule.av l) f_l), (4, .ptr 0 0 none), (7, .sc (.int .i64 n)), (9, .sc (.int .i64 x.2)), (11, .sc (.int .i64 x1.2)), (12, .sc (.bool there)), (13, .sc (.int .i64 ((i : Nat) : Int)))] [.box 30 (Mod.ch m1)] := by
  have hG := tab_ok
  have hm := mixed
  intro rest
  induction rest with
  | nil =>
    intro i hd there H
    rw [podestalaw07_ModsRoom_l0s] at H
    refine AR.facts 0 rfl fun hf => ?_
    have hlen : l.length ≤ 9223372036854775807 := by have hq := len_ok hf.2.1; rw [List.length_map] at hq; exact hq
    have hge : l.length ≤ i := List.drop_eq_nil_iff.1 hd
    have hc : (decide (((i : Nat) : Int) < (((List.map Rule.av l).length : Nat) : Int))) = false := by rw [List.length_map]; exact decide_eq_false (by omega)
    refine AR.seg hG hm 3 [0, 4, 7, 9, 11, 12, 13, 48] (k' := [.code [1, 1, 1, 1, 1, 1, 0, 1, 0, 0, 0, 1], .code [1, 1, 1, 1, 1, 1, 0, 1, 0, 0, 1], .loop [1, 1, 1, 1, 1, 1, 0, 1, 0], .blk 0, .code [1, 1, 1, 1, 1, 1, 1]]) (t' := [(0, .sl 40 (List.map Rule.av l) f_l), (4, .ptr 0 0 none), (7, .sc (.int .i64 n)), (9, .sc (.int .i64 x.2)), (11, .sc (.int .i64 x1.2)), (12, .sc (.bool there)), (13, .sc (.int .i64 ((i : Nat) : Int))), (48, .sc (.bool (decide (((i : Nat) : Int) < (((List.map Rule.av l).length : Nat) : Int)))))]) (h' := [.box 30 (Mod.ch m1)]) (by kernel_rfl) ?_
    refine AR.cond (.tmp 48) (decide (((i : Nat) : Int) < (((List.map Rule.av l).length : Nat) : Int))) (by kernel_rfl) (by kernel_rfl) (fun hb => ?ht16) (fun hb => ?hf16)
    case ht16 => exact absurd (hb.symm.trans hc) (by decide)
    case hf16 =>
      refine AR.seg hG hm 1 [0, 7, 9, 11, 12] (k' := [.code [1, 1, 1, 1, 1, 1, 1]]) (t' := [(0, .sl 40 (List.map Rule.av l) f_l), (7, .sc (.int .i64 n)), (9, .sc (.int .i64 x.2)), (11, .sc (.int .i64 x1.2)), (12, .sc (.bool there))]) (h' := [.box 30 (Mod.ch m1)]) (by kernel_rfl) ?_
      refine AR.keep [0, 7, 9, 11, 12] (t' := [(0, .sl 40 (List.map Rule.av l) f_l), (7, .sc (.int .i64 n)), (9, .sc (.int .i64 x.2)), (11, .sc (.int .i64 x1.2)), (12, .sc (.bool there))]) (by kernel_rfl) ?_
      subst H
      exact J
  | cons x2 rest ih =>
    intro i hd there H
    rw [podestalaw07_ModsRoom_l0s] at H
    refine AR.facts 0 rfl fun hf => ?_
    have hlen : l.length ≤ 9223372036854775807 := by have hq := len_ok hf.2.1; rw [List.length_map] at hq; exact hq
    obtain ⟨hlt, hv_i, hd2⟩ := drop_cons hd
    have hc : (decide (((i : Nat) : Int) < (((List.map Rule.av l).length : Nat) : Int))) = true := by rw [List.length_map]; exact decide_eq_true (by omega)
    have hw : IntKind.i64.wrap (((i : Nat) : Int) + 1) = ((i + 1 : Nat) : Int) := wrapI_succ (by omega)
    refine AR.seg hG hm 3 [0, 4, 7, 9, 11, 12, 13, 48] (k' := [.code [1, 1, 1, 1, 1, 1, 0, 1, 0, 0, 0, 1], .code [1, 1, 1, 1, 1, 1, 0, 1, 0, 0, 1], .loop [1, 1, 1, 1, 1, 1, 0, 1, 0], .blk 0, .code [1, 1, 1, 1, 1, 1, 1]]) (t' := [(0, .sl 40 (List.map Rule.av l) f_l), (4, .ptr 0 0 none), (7, .sc (.int .i64 n)), (9, .sc (.int .i64 x.2)), (11, .sc (.int .i64 x1.2)), (12, .sc (.bool there)), (13, .sc (.int .i64 ((i : Nat) : Int))), (48, .sc (.bool (decide (((i : Nat) : Int) < (((List.map Rule.av l).length : Nat) : Int)))))]) (h' := [.box 30 (Mod.ch m1)]) (by kernel_rfl) ?_
    refine AR.cond (.tmp 48) (decide (((i : Nat) : Int) < (((List.map Rule.av l).length : Nat) : Int))) (by kernel_rfl) (by kernel_rfl) (fun hb => ?ht17) (fun hb => ?hf17)
    case ht17 =>
      refine AR.seg hG hm 3 [0, 4, 7, 9, 11, 12, 13] (k' := [.code [1, 1, 1, 1, 1, 1, 0, 1, 0, 0, 1, 0, 0], .blk 1, .code [1, 1, 1, 1, 1, 1, 0, 1, 0, 0, 1, 1], .loop [1, 1, 1, 1, 1, 1, 0, 1, 0], .blk 0, .code [1, 1, 1, 1, 1, 1, 1]]) (t' := [(0, .sl 40 (List.map Rule.av l) f_l), (4, .ptr 0 0 none), (7, .sc (.int .i64 n)), (9, .sc (.int .i64 x.2)), (11, .sc (.int .i64 x1.2)), (12, .sc (.bool there)), (13, .sc (.int .i64 ((i : Nat) : Int)))]) (h' := [.box 30 (Mod.ch m1)]) (by kernel_rfl) ?_
      refine AR.reg hm podestalaw07_ModsRoom_k5 (by kernel_rfl) ?_
      refine DK.seg hG 2 [0, 4, 7, 9, 11, 13, 52] (t' := [(0, .sl 40 (List.map Rule.av l) f_l), (4, .ptr 0 0 none), (7, .sc (.int .i64 n)), (9, .sc (.int .i64 x.2)), (11, .sc (.int .i64 x1.2)), (13, .sc (.int .i64 ((i : Nat) : Int))), (52, .sc (.bool there))]) (h' := [.box 30 (Mod.ch m1)]) (by kernel_rfl) rfl ?_
      refine DK.mux 52 there (j := 21) (h' := [.box 30 (Mod.ch m1)]) (by kernel_rfl) (fun z => [(0, .sl 40 (List.map Rule.av l) f_l), (4, .ptr 0 0 none), (7, .sc (.int .i64 n)), (9, .sc (.int .i64 x.2)), (11, .sc (.int .i64 x1.2)), (13, .sc (.int .i64 ((i : Nat) : Int))), (71, .sc (.bool (z || (((x2.Match.Value == m1.Match.Value) && (x2.Match.Care == m1.Match.Care)) && (x2.Prio == m1.Prio)))))]) ?J19 (fun hb J => ?ht19) (fun hb J => ?hf19)
      case ht19 =>
        exact DK.seg hG 19 [0, 4, 7, 9, 11, 13, 71] (by kernel_rfl) rfl J
      case hf19 =>
        refine DK.seg hG 2 [0, 4, 7, 9, 11, 13, 52, 53, 54] (t' := [(0, .sl 40 (List.map Rule.av l) f_l), (4, .ptr 0 0 none), (7, .sc (.int .i64 n)), (9, .sc (.int .i64 x.2)), (11, .sc (.int .i64 x1.2)), (13, .sc (.int .i64 ((i : Nat) : Int))), (52, .sc (.bool false)), (53, .sl 40 (List.map Rule.av l) f_l), (54, .sc (.int .i64 ((i : Nat) : Int)))]) (h' := [.box 30 (Mod.ch m1)]) (by kernel_rfl) rfl ?_
        refine DK.op' [0, 4, 7, 9, 11, 13, 52, 55] (t' := [(0, .sl 40 (List.map Rule.av l) f_l), (4, .ptr 0 0 none), (7, .sc (.int .i64 n)), (9, .sc (.int .i64 x.2)), (11, .sc (.int .i64 x1.2)), (13, .sc (.int .i64 ((i : Nat) : Int))), (52, .sc (.bool false)), (55, .ep [.arr .u64 12 x2.Match.Value, .arr .u64 12 x2.Match.Care, .sc (.int .i64 x2.Prio), .sl 48 (List.map Act.av x2.Acts) false, .sc (.int .i64 x2.Idle), .sc (.int .i64 x2.Hard), .sc (.int .i64 x2.Owner), .sc (.int .i64 x2.Hits), .sc (.int .i64 x2.Quiet), .sc (.int .i64 x2.Age)] 0 none)]) (h' := [.box 30 (Mod.ch m1)]) (LSpec.index' (r := Rule.av x2) (fs := [.arr .u64 12 x2.Match.Value, .arr .u64 12 x2.Match.Care, .sc (.int .i64 x2.Prio), .sl 48 (List.map Act.av x2.Acts) false, .sc (.int .i64 x2.Idle), .sc (.int .i64 x2.Hard), .sc (.int .i64 x2.Owner), .sc (.int .i64 x2.Hits), .sc (.int .i64 x2.Quiet), .sc (.int .i64 x2.Age)]) hG (rows := List.map Rule.av l) (j := ((i : Nat) : Int)) (by kernel_rfl) (ixO_map hv_i _) (by kernel_rfl)) (by kernel_rfl) rfl (by kernel_rfl) rfl ?_
        refine DK.seg hG 4 [0, 4, 7, 9, 11, 13, 52, 57, 59] (t' := [(0, .sl 40 (List.map Rule.av l) f_l), (4, .ptr 0 0 none), (7, .sc (.int .i64 n)), (9, .sc (.int .i64 x.2)), (11, .sc (.int .i64 x1.2)), (13, .sc (.int .i64 ((i : Nat) : Int))), (52, .sc (.bool false)), (57, Cube.av x2.Match), (59, Cube.av m1.Match)]) (h' := [.box 30 (Mod.ch m1)]) (by kernel_rfl) rfl ?_
        refine DK.op' [0, 4, 7, 9, 11, 13, 52, 60] (t' := [(0, .sl 40 (List.map Rule.av l) f_l), (4, .ptr 0 0 none), (7, .sc (.int .i64 n)), (9, .sc (.int .i64 x.2)), (11, .sc (.int .i64 x1.2)), (13, .sc (.int .i64 ((i : Nat) : Int))), (52, .sc (.bool false)), (60, .sc (.bool ((x2.Match.Value == m1.Match.Value) && (x2.Match.Care == m1.Match.Care))))]) (h' := [.box 30 (Mod.ch m1)]) (LSpec.eq' 9 (r := ((x2.Match.Value == m1.Match.Value) && (x2.Match.Care == m1.Match.Care))) (by kernel_rfl)) (by kernel_rfl) rfl (by kernel_rfl) rfl ?_
        refine DK.seg hG 1 [0, 4, 7, 9, 11, 13, 52, 61] (t' := [(0, .sl 40 (List.map Rule.av l) f_l), (4, .ptr 0 0 none), (7, .sc (.int .i64 n)), (9, .sc (.int .i64 x.2)), (11, .sc (.int .i64 x1.2)), (13, .sc (.int .i64 ((i : Nat) : Int))), (52, .sc (.bool false)), (61, .sc (.bool ((x2.Match.Value == m1.Match.Value) && (x2.Match.Care == m1.Match.Care))))]) (h' := [.box 30 (Mod.ch m1)]) (by kernel_rfl) rfl ?_
        refine DK.mux 61 ((x2.Match.Value == m1.Match.Value) && (x2.Match.Care == m1.Match.Care)) (j := 20) (h' := [.box 30 (Mod.ch m1)]) (by kernel_rfl) (fun z => [(0, .sl 40 (List.map Rule.av l) f_l), (4, .ptr 0 0 none), (7, .sc (.int .i64 n)), (9, .sc (.int .i64 x.2)), (11, .sc (.int .i64 x1.2)), (13, .sc (.int .i64 ((i : Nat) : Int))), (52, .sc (.bool false)), (70, .sc (.bool (z && (x2.Prio == m1.Prio))))]) ?J20 (fun hb J => ?ht20) (fun hb J => ?hf20)
        case ht20 =>
          refine DK.seg hG 2 [0, 4, 7, 9, 11, 13, 52, 61, 62, 63] (t' := [(0, .sl 40 (List.map Rule.av l) f_l), (4, .ptr 0 0 none), (7, .sc (.int .i64 n)), (9, .sc (.int .i64 x.2)), (11, .sc (.int .i64 x1.2)), (13, .sc (.int .i64 ((i : Nat) : Int))), (52, .sc (.bool false)), (61, .sc (.bool true)), (62, .sl 40 (List.map Rule.av l) f_l), (63, .sc (.int .i64 ((i : Nat) : Int)))]) (h' := [.box 30 (Mod.ch m1)]) (by kernel_rfl) rfl ?_
          refine DK.op' [0, 4, 7, 9, 11, 13, 52, 61, 64] (t' := [(0, .sl 40 (List.map Rule.av l) f_l), (4, .ptr 0 0 none), (7, .sc (.int .i64 n)), (9, .sc (.int .i64 x.2)), (11, .sc (.int .i64 x1.2)), (13, .sc (.int .i64 ((i : Nat) : Int))), (52, .sc (.bool false)), (61, .sc (.bool true)), (64, .ep [.arr .u64 12 x2.Match.Value, .arr .u64 12 x2.Match.Care, .sc (.int .i64 x2.Prio), .sl 48 (List.map Act.av x2.Acts) false, .sc (.int .i64 x2.Idle), .sc (.int .i64 x2.Hard), .sc (.int .i64 x2.Owner), .sc (.int .i64 x2.Hits), .sc (.int .i64 x2.Quiet), .sc (.int .i64 x2.Age)] 0 none)]) (h' := [.box 30 (Mod.ch m1)]) (LSpec.index' (r := Rule.av x2) (fs := [.arr .u64 12 x2.Match.Value, .arr .u64 12 x2.Match.Care, .sc (.int .i64 x2.Prio), .sl 48 (List.map Act.av x2.Acts) false, .sc (.int .i64 x2.Idle), .sc (.int .i64 x2.Hard), .sc (.int .i64 x2.Owner), .sc (.int .i64 x2.Hits), .sc (.int .i64 x2.Quiet), .sc (.int .i64 x2.Age)]) hG (rows := List.map Rule.av l) (j := ((i : Nat) : Int)) (by kernel_rfl) (ixO_map hv_i _) (by kernel_rfl)) (by kernel_rfl) rfl (by kernel_rfl) rfl ?_
          exact DK.seg hG 6 [0, 4, 7, 9, 11, 13, 52, 70] (by kernel_rfl) rfl J
        case hf20 =>
          exact DK.seg hG 9 [0, 4, 7, 9, 11, 13, 52, 70] (by kernel_rfl) rfl J
        exact DK.seg hG 1 [0, 4, 7, 9, 11, 13, 71] (by kernel_rfl) rfl J
      refine DK.seg hG 1 [0, 4, 7, 9, 11, 12, 13] (t' := [(0, .sl 40 (List.map Rule.av l) f_l), (4, .ptr 0 0 none), (7, .sc (.int .i64 n)), (9, .sc (.int .i64 x.2)), (11, .sc (.int .i64 x1.2)), (12, .sc (.bool (there || (((x2.Match.Value == m1.Match.Value) && (x2.Match.Care == m1.Match.Care)) && (x2.Prio == m1.Prio))))), (13, .sc (.int .i64 ((i : Nat) : Int)))]) (h' := [.box 30 (Mod.ch m1)]) (by kernel_rfl) rfl ?_
      refine DK.done (by kernel_rfl) (by kernel_rfl) ?_
      refine AR.seg hG hm 2 [0, 4, 7, 9, 11, 12, 13] (k' := [.loop [1, 1, 1, 1, 1, 1, 0, 1, 0], .blk 0, .code [1, 1, 1, 1, 1, 1, 1]]) (t' := [(0, .sl 40 (List.map Rule.av l) f_l), (4, .ptr 0 0 none), (7, .sc (.int .i64 n)), (9, .sc (.int .i64 x.2)), (11, .sc (.int .i64 x1.2)), (12, .sc (.bool (there || (((x2.Match.Value == m1.Match.Value) && (x2.Match.Care == m1.Match.Care)) && (x2.Prio == m1.Prio))))), (13, .sc (.int .i64 (IntKind.i64.wrap (((i : Nat) : Int) + 1))))]) (h' := [.box 30 (Mod.ch m1)]) (by kernel_rfl) ?_
      refine AR.keep [0, 4, 7, 9, 11, 12, 13] (t' := [(0, .sl 40 (List.map Rule.av l) f_l), (4, .ptr 0 0 none), (7, .sc (.int .i64 n)), (9, .sc (.int .i64 x.2)), (11, .sc (.int .i64 x1.2)), (12, .sc (.bool (there || (((x2.Match.Value == m1.Match.Value) && (x2.Match.Care == m1.Match.Care)) && (x2.Prio == m1.Prio))))), (13, .sc (.int .i64 (IntKind.i64.wrap (((i : Nat) : Int) + 1))))]) (by kernel_rfl) ?_
      refine AR.loop_round ?_
      rw [hw]
      exact ih (i + 1) hd2 (there || (((x2.Match.Value == m1.Match.Value) && (x2.Match.Care == m1.Match.Care)) && (x2.Prio == m1.Prio))) H
    case hf17 => exact absurd (hc.symm.trans hb) (by decide)

def podestalaw07_ModsRoom_raw (l : List Rule) (m1 : Mod) (room : Int) : Option (Bool) :=
  (bif (((decide ((((List.map Rule.av l).length : Nat) : Int) > 40)) || (decide ((((List.map Act.av m1.Acts).length : Nat) : Int) > 20))) || (m1.Kind != 1)) then
    some true
  else
    (applyO l m1 1000).bind fun x =>
    (applyO l m1 (IntKind.i64.wrap (Int.tmod room 9))).bind fun x1 =>
    letT (podestalaw07_ModsRoom_l0s m1 (IntKind.i64.wrap (Int.tmod room 9)) l false) fun v =>
    (bif (x.2 != 0) then
      some (x1.2 == x.2)
    else
      some (((x1.2 == 3) == ((!v.2) && (decide ((((List.map Rule.av l).length : Nat) : Int) ≥ v.1)))) && ((x1.2 == 0) || (x1.2 == 3)))))
theorem podestalaw07_ModsRoom_walk (l : List Rule) (m1 : Mod) (room : Int) (f_l : Bool) (r : Bool) (H : podestalaw07_ModsRoom_raw l m1 room = some r) :
    ACalls Try.prog tab.S 7 [.sl 40 (List.map Rule.av l) f_l, Mod.av m1, .sc (.int .u8 room)] [] (.sc (.bool r)) [] := by
  have hG := tab_ok
  have hm := mixed
  refine ACalls.of_AR (G := tab) podestalaw07_ModsRoom_F (fn := Try.f7) Try.func7 (by kernel_rfl) (by kernel_rfl) (by kernel_rfl) (Nat.le_of_ble_eq_true (by kernel_rfl)) ?_
  intro c0 hc0
  replace hc0 : c0.m.length = 0 := hc0
  rw [podestalaw07_ModsRoom_raw] at H
  refine AR.seg hG hm 4 [0, 2, 4] (k' := [.code [1, 0, 0], .code [1, 0, 1], .code [1, 1]]) (t' := [(0, .sl 40 (List.map Rule.av l) f_l), (2, .sc (.int .u8 room)), (4, .ptr 0 0 none)]) (h' := [.box 30 (Mod.ch m1)]) (by kernel_rfl) ?_
  refine AR.reg hm podestalaw07_ModsRoom_k0 (by kernel_rfl) ?_
  refine DK.seg hG 4 [0, 2, 4, 17] (t' := [(0, .sl 40 (List.map Rule.av l) f_l), (2, .sc (.int .u8 room)), (4, .ptr 0 0 none), (17, .sc (.bool (decide ((((List.map Rule.av l).length : Nat) : Int) > 40))))]) (h' := [.box 30 (Mod.ch m1)]) (by kernel_rfl) rfl ?_
  refine DK.mux 17 (decide ((((List.map Rule.av l).length : Nat) : Int) > 40)) (j := 9) (h' := [.box 30 (Mod.ch m1)]) (by kernel_rfl) (fun z => [(0, .sl 40 (List.map Rule.av l) f_l), (2, .sc (.int .u8 room)), (4, .ptr 0 0 none), (22, .sc (.bool (z || (decide ((((List.map Act.av m1.Acts).length : Nat) : Int) > 20)))))]) ?J1 (fun hb J => ?ht1) (fun hb J => ?hf1)
  case ht1 =>
    exact DK.seg hG 5 [0, 2, 4, 22] (by kernel_rfl) rfl J
  case hf1 =>
    exact DK.seg hG 5 [0, 2, 4, 22] (by kernel_rfl) rfl J
  refine DK.seg hG 1 [0, 2, 4, 23] (t' := [(0, .sl 40 (List.map Rule.av l) f_l), (2, .sc (.int .u8 room)), (4, .ptr 0 0 none), (23, .sc (.bool ((decide ((((List.map Rule.av l).length : Nat) : Int) > 40)) || (decide ((((List.map Act.av m1.Acts).length : Nat) : Int) > 20)))))]) (h' := [.box 30 (Mod.ch m1)]) (by kernel_rfl) rfl ?_
  refine DK.mux 23 ((decide ((((List.map Rule.av l).length : Nat) : Int) > 40)) || (decide ((((List.map Act.av m1.Acts).length : Nat) : Int) > 20))) (j := 14) (h' := [.box 30 (Mod.ch m1)]) (by kernel_rfl) (fun z => [(0, .sl 40 (List.map Rule.av l) f_l), (2, .sc (.int .u8 room)), (4, .ptr 0 0 none), (27, .sc (.bool (z || (m1.Kind != 1))))]) ?J2 (fun hb J => ?ht2) (fun hb J => ?hf2)
  case ht2 =>
    exact DK.seg hG 4 [0, 2, 4, 27] (by kernel_rfl) rfl J
  case hf2 =>
    exact DK.seg hG 4 [0, 2, 4, 27] (by kernel_rfl) rfl J
  refine DK.done (by kernel_rfl) (by kernel_rfl) ?_
  refine AR.cond (.tmp 27) (((decide ((((List.map Rule.av l).length : Nat) : Int) > 40)) || (decide ((((List.map Act.av m1.Acts).length : Nat) : Int) > 20))) || (m1.Kind != 1)) (by kernel_rfl) (by kernel_rfl) (fun hb => ?ht3) (fun hb => ?hf3)
  case ht3 =>
    replace H := cond_t hb H
    refine AR.seg hG hm 1 [] (k' := [.code [1, 0, 1, 0, 0], .code [1, 0, 1, 0, 1], .code [1, 1]]) (t' := []) (h' := [.box 30 (Mod.ch m1)]) (by kernel_rfl) ?_
    refine AR.reg hm podestalaw07_ModsRoom_k1 (by kernel_rfl) ?_
    refine DK.op' [28] (t' := [(28, .sc (.bool true))]) (h' := [.box 30 (Mod.ch m1)]) (LSpec.callP' (podestalaw07_answers_ok) (by kernel_rfl)) (by kernel_rfl) rfl (by kernel_rfl) rfl ?_
    refine DK.seg hG 1 [6] (t' := [(6, .sc (.bool true))]) (h' := [.box 30 (Mod.ch m1)]) (by kernel_rfl) rfl ?_
    refine DK.done (by kernel_rfl) (by kernel_rfl) ?_
    obtain rfl := Option.some.inj H
    exact AR.ret0 (fn := Try.f7) hG Try.func7 (by kernel_rfl) hc0 (r0 := .sc (.bool true)) (by kernel_rfl) (WkV.refl _)
  case hf3 =>
    replace H := cond_f hb H
    refine AR.seg hG hm 2 [0, 2, 4] (k' := [.code [1, 1, 0], .code [1, 1, 1]]) (t' := [(0, .sl 40 (List.map Rule.av l) f_l), (2, .sc (.int .u8 room)), (4, .ptr 0 0 none)]) (h' := [.box 30 (Mod.ch m1)]) (by kernel_rfl) ?_
    refine AR.reg hm podestalaw07_ModsRoom_k2 (by kernel_rfl) ?_
    refine DK.seg hG 1 [0, 4, 29] (t' := [(0, .sl 40 (List.map Rule.av l) f_l), (4, .ptr 0 0 none), (29, .sc (.int .u8 room))]) (h' := [.box 30 (Mod.ch m1)]) (by kernel_rfl) rfl ?_
    refine DK.op' [0, 4, 30] (t' := [(0, .sl 40 (List.map Rule.av l) f_l), (4, .ptr 0 0 none), (30, .sc (.int .u8 (Int.tmod room 9)))]) (h' := [.box 30 (Mod.ch m1)]) (LSpec.rem (k := .u8) (a := room) (b := 9) (by decide) (by kernel_rfl)) (by kernel_rfl) rfl (by kernel_rfl) rfl ?_
    refine DK.seg hG 2 [0, 4, 7] (t' := [(0, .sl 40 (List.map Rule.av l) f_l), (4, .ptr 0 0 none), (7, .sc (.int .i64 (IntKind.i64.wrap (Int.tmod room 9))))]) (h' := [.box 30 (Mod.ch m1)]) (by kernel_rfl) rfl ?_
    refine DK.done (by kernel_rfl) (by kernel_rfl) ?_
    refine AR.seg hG hm 1 [0, 4, 7] (k' := [.code [1, 1, 1, 0], .code [1, 1, 1, 1]]) (t' := [(0, .sl 40 (List.map Rule.av l) f_l), (4, .ptr 0 0 none), (7, .sc (.int .i64 (IntKind.i64.wrap (Int.tmod room 9))))]) (h' := [.box 30 (Mod.ch m1)]) (by kernel_rfl) ?_
    refine AR.reg hm podestalaw07_ModsRoom_k3 (by kernel_rfl) ?_
    refine DK.seg hG 2 [0, 4, 7, 33, 34] (t' := [(0, .sl 40 (List.map Rule.av l) f_l), (4, .ptr 0 0 none), (7, .sc (.int .i64 (IntKind.i64.wrap (Int.tmod room 9)))), (33, .sl 40 (List.map Rule.av l) f_l), (34, Mod.av m1)]) (h' := [.box 30 (Mod.ch m1)]) (by kernel_rfl) rfl ?_
    obtain ⟨x, hv, H⟩ := Option.bind_eq_some_iff.1 H
    refine DK.op' [0, 4, 7, 35] (t' := [(0, .sl 40 (List.map Rule.av l) f_l), (4, .ptr 0 0 none), (7, .sc (.int .i64 (IntKind.i64.wrap (Int.tmod room 9)))), (35, .tup [.sl 40 (List.map Rule.av x.1) false, .sc (.int .i64 x.2)])]) (h' := [.box 30 (Mod.ch m1)]) (LSpec.callP' (mods_Apply_ok l m1 1000 f_l x hv) (by kernel_rfl)) (by kernel_rfl) rfl (by kernel_rfl) rfl ?_
    refine DK.seg hG 5 [0, 4, 7, 9] (t' := [(0, .sl 40 (List.map Rule.av l) f_l), (4, .ptr 0 0 none), (7, .sc (.int .i64 (IntKind.i64.wrap (Int.tmod room 9)))), (9, .sc (.int .i64 x.2))]) (h' := [.box 30 (Mod.ch m1)]) (by kernel_rfl) rfl ?_
    refine DK.done (by kernel_rfl) (by kernel_rfl) ?_
    refine AR.seg hG hm 1 [0, 4, 7, 9] (k' := [.code [1, 1, 1, 1, 0], .code [1, 1, 1, 1, 1]]) (t' := [(0, .sl 40 (List.map Rule.av l) f_l), (4, .ptr 0 0 none), (7, .sc (.int .i64 (IntKind.i64.wrap (Int.tmod room 9)))), (9, .sc (.int .i64 x.2))]) (h' := [.box 30 (Mod.ch m1)]) (by kernel_rfl) ?_
    refine AR.reg hm podestalaw07_ModsRoom_k4 (by kernel_rfl) ?_
    refine DK.seg hG 3 [0, 4, 7, 9, 39, 40, 41] (t' := [(0, .sl 40 (List.map Rule.av l) f_l), (4, .ptr 0 0 none), (7, .sc (.int .i64 (IntKind.i64.wrap (Int.tmod room 9)))), (9, .sc (.int .i64 x.2)), (39, .sl 40 (List.map Rule.av l) f_l), (40, Mod.av m1), (41, .sc (.int .i64 (IntKind.i64.wrap (Int.tmod room 9))))]) (h' := [.box 30 (Mod.ch m1)]) (by kernel_rfl) rfl ?_
    obtain ⟨x1, hv, H⟩ := Option.bind_eq_some_iff.1 H
    refine DK.op' [0, 4, 7, 9, 42] (t' := [(0, .sl 40 (List.map Rule.av l) f_l), (4, .ptr 0 0 none), (7, .sc (.int .i64 (IntKind.i64.wrap (Int.tmod room 9)))), (9, .sc (.int .i64 x.2)), (42, .tup [.sl 40 (List.map Rule.av x1.1) false, .sc (.int .i64 x1.2)])]) (h' := [.box 30 (Mod.ch m1)]) (LSpec.callP' (mods_Apply_ok l m1 (IntKind.i64.wrap (Int.tmod room 9)) f_l x1 hv) (by kernel_rfl)) (by kernel_rfl) rfl (by kernel_rfl) rfl ?_
    refine DK.seg hG 5 [0, 4, 7, 9, 11] (t' := [(0, .sl 40 (List.map Rule.av l) f_l), (4, .ptr 0 0 none), (7, .sc (.int .i64 (IntKind.i64.wrap (Int.tmod room 9)))), (9, .sc (.int .i64 x.2)), (11, .sc (.int .i64 x1.2))]) (h' := [.box 30 (Mod.ch m1)]) (by kernel_rfl) rfl ?_
    refine DK.done (by kernel_rfl) (by kernel_rfl) ?_
    refine AR.seg hG hm 6 [0, 4, 7, 9, 11, 12, 13] (k' := [.code [1, 1, 1, 1, 1, 1, 0, 1, 0], .blk 0, .code [1, 1, 1, 1, 1, 1, 1]]) (t' := [(0, .sl 40 (List.map Rule.av l) f_l), (4, .ptr 0 0 none), (7, .sc (.int .i64 (IntKind.i64.wrap (Int.tmod room 9)))), (9, .sc (.int .i64 x.2)), (11, .sc (.int .i64 x1.2)), (12, .sc (.bool false)), (13, .sc (.int .i64 0))]) (h' := [.box 30 (Mod.ch m1)]) (by kernel_rfl) ?_
    obtain ⟨v, hv, H⟩ := letT_eq H
    refine AR.into (by kernel_rfl) ?_
    refine podestalaw07_ModsRoom_l0_walk l m1 room x x1 (IntKind.i64.wrap (Int.tmod room 9)) f_l r c0 hc0 v ?_ l 0 rfl false hv
    refine AR.seg hG hm 3 [0, 7, 9, 11, 12, 73] (k' := [.code [1, 1, 1, 1, 1, 1, 1, 0, 1], .code [1, 1, 1, 1, 1, 1, 1, 1]]) (t' := [(0, .sl 40 (List.map Rule.av l) f_l), (7, .sc (.int .i64 v.1)), (9, .sc (.int .i64 x.2)), (11, .sc (.int .i64 x1.2)), (12, .sc (.bool v.2)), (73, .sc (.bool (x.2 != 0)))]) (h' := [.box 30 (Mod.ch m1)]) (by kernel_rfl) ?_
    refine AR.cond (.tmp 73) (x.2 != 0) (by kernel_rfl) (by kernel_rfl) (fun hb => ?ht21) (fun hb => ?hf21)
    case ht21 =>
      replace H := cond_t hb H
      refine AR.seg hG hm 1 [9, 11] (k' := [.code [1, 1, 1, 1, 1, 1, 1, 0, 1, 0, 0], .code [1, 1, 1, 1, 1, 1, 1, 0, 1, 0, 1], .code [1, 1, 1, 1, 1, 1, 1, 1]]) (t' := [(9, .sc (.int .i64 x.2)), (11, .sc (.int .i64 x1.2))]) (h' := [.box 30 (Mod.ch m1)]) (by kernel_rfl) ?_
      refine AR.reg hm podestalaw07_ModsRoom_k6 (by kernel_rfl) ?_
      refine DK.op' [9, 11, 74] (t' := [(9, .sc (.int .i64 x.2)), (11, .sc (.int .i64 x1.2)), (74, .sc (.bool true))]) (h' := [.box 30 (Mod.ch m1)]) (LSpec.callP' (podestalaw07_answers_ok) (by kernel_rfl)) (by kernel_rfl) rfl (by kernel_rfl) rfl ?_
      refine DK.seg hG 6 [6] (t' := [(6, .sc (.bool (x1.2 == x.2)))]) (h' := [.box 30 (Mod.ch m1)]) (by kernel_rfl) rfl ?_
      refine DK.done (by kernel_rfl) (by kernel_rfl) ?_
      obtain rfl := Option.some.inj H
      exact AR.ret0 (fn := Try.f7) hG Try.func7 (by kernel_rfl) hc0 (r0 := .sc (.bool (x1.2 == x.2))) (by kernel_rfl) (WkV.refl _)
    case hf21 =>
      replace H := cond_f hb H
      refine AR.seg hG hm 2 [0, 7, 11, 12] (k' := [.code [1, 1, 1, 1, 1, 1, 1, 1, 0], .code [1, 1, 1, 1, 1, 1, 1, 1, 1]]) (t' := [(0, .sl 40 (List.map Rule.av l) f_l), (7, .sc (.int .i64 v.1)), (11, .sc (.int .i64 x1.2)), (12, .sc (.bool v.2))]) (h' := [.box 30 (Mod.ch m1)]) (by kernel_rfl) ?_
      refine AR.reg hm podestalaw07_ModsRoom_k7 (by kernel_rfl) ?_
      refine DK.op' [0, 7, 11, 12, 80] (t' := [(0, .sl 40 (List.map Rule.av l) f_l), (7, .sc (.int .i64 v.1)), (11, .sc (.int .i64 x1.2)), (12, .sc (.bool v.2)), (80, .sc (.bool true))]) (h' := [.box 30 (Mod.ch m1)]) (LSpec.callP' (podestalaw07_answers_ok) (by kernel_rfl)) (by kernel_rfl) rfl (by kernel_rfl) rfl ?_
      refine DK.seg hG 6 [0, 7, 11, 81, 83, 86] (t' := [(0, .sl 40 (List.map Rule.av l) f_l), (7, .sc (.int .i64 v.1)), (11, .sc (.int .i64 x1.2)), (81, .sc (.bool true)), (83, .sc (.bool (x1.2 == 3))), (86, .sc (.bool (!v.2)))]) (h' := [.box 30 (Mod.ch m1)]) (by kernel_rfl) rfl ?_
      refine DK.mux 86 (!v.2) (j := 12) (h' := [.box 30 (Mod.ch m1)]) (by kernel_rfl) (fun z => [(11, .sc (.int .i64 x1.2)), (81, .sc (.bool true)), (83, .sc (.bool (x1.2 == 3))), (91, .sc (.bool (z && (decide ((((List.map Rule.av l).length : Nat) : Int) ≥ v.1)))))]) ?J22 (fun hb J => ?ht22) (fun hb J => ?hf22)
      case ht22 =>
        exact DK.seg hG 5 [11, 81, 83, 91] (by kernel_rfl) rfl J
      case hf22 =>
        exact DK.seg hG 5 [11, 81, 83, 91] (by kernel_rfl) rfl J
      refine DK.seg hG 3 [11, 94] (t' := [(11, .sc (.int .i64 x1.2)), (94, .sc (.bool ((x1.2 == 3) == ((!v.2) && (decide ((((List.map Rule.av l).length : Nat) : Int) ≥ v.1))))))]) (h' := [.box 30 (Mod.ch m1)]) (by kernel_rfl) rfl ?_
      refine DK.mux 94 ((x1.2 == 3) == ((!v.2) && (decide ((((List.map Rule.av l).length : Nat) : Int) ≥ v.1)))) (j := 22) (h' := [.box 30 (Mod.ch m1)]) (by kernel_rfl) (fun z => [(101, .sc (.bool (z && ((x1.2 == 0) || (x1.2 == 3)))))]) ?J24 (fun hb J => ?ht24) (fun hb J => ?hf24)
      case ht24 =>
        refine DK.seg hG 3 [11, 94, 97] (t' := [(11, .sc (.int .i64 x1.2)), (94, .sc (.bool true)), (97, .sc (.bool (x1.2 == 0)))]) (h' := [.box 30 (Mod.ch m1)]) (by kernel_rfl) rfl ?_
        refine DK.mux 97 (x1.2 == 0) (j := 21) (h' := [.box 30 (Mod.ch m1)]) (by kernel_rfl) (fun z => [(94, .sc (.bool true)), (100, .sc (.bool (z || (x1.2 == 3))))]) ?J25 (fun hb J => ?ht25) (fun hb J => ?hf25)
        case ht25 =>
          exact DK.seg hG 3 [94, 100] (by kernel_rfl) rfl J
        case hf25 =>
          exact DK.seg hG 3 [94, 100] (by kernel_rfl) rfl J
        exact DK.seg hG 1 [101] (by kernel_rfl) rfl J
      case hf24 =>
        exact DK.seg hG 7 [101] (by kernel_rfl) rfl J
      refine DK.seg hG 1 [6] (t' := [(6, .sc (.bool (((x1.2 == 3) == ((!v.2) && (decide ((((List.map Rule.av l).length : Nat) : Int) ≥ v.1)))) && ((x1.2 == 0) || (x1.2 == 3)))))]) (h' := [.box 30 (Mod.ch m1)]) (by kernel_rfl) rfl ?_
      refine DK.done (by kernel_rfl) (by kernel_rfl) ?_
      obtain rfl := Option.some.inj H
      exact AR.ret0 (fn := Try.f7) hG Try.func7 (by kernel_rfl) hc0 (r0 := .sc (.bool (((x1.2 == 3) == ((!v.2) && (decide ((((List.map Rule.av l).length : Nat) : Int) ≥ v.1)))) && ((x1.2 == 0) || (x1.2 == 3))))) (by kernel_rfl) (WkV.refl _)

theorem ModsRoom_l0s_eq (m : Mod) (n : Int) : ∀ (l : List Rule) (b : Bool), podestalaw07_ModsRoom_l0s m n l b = (n, b || l.any (fun x => rule_Key x (mods_Rule m)))
  | [], b => by rw [podestalaw07_ModsRoom_l0s]; simp
  | x :: l, b => by
      rw [podestalaw07_ModsRoom_l0s, ModsRoom_l0s_eq m n l, List.any_cons, ← Bool.or_assoc]
      rfl
theorem applyO_eq {l : List Rule} (h : l.length ≤ 1000000) (m : Mod) (room : Int) : applyO l m room = some (applyM l m room) := by
  unfold applyO; rw [if_pos h]
theorem ModsRoom_true (l : List Rule) (m : Mod) (room : Int) (_ : ∀ y ∈ l, Rule.wf y) (_ : Mod.wf m) (_ : intW .u8 room) (_ : l.length * 272 ≤ 140737488355328) (_ : m.Acts.length * 32 ≤ 140737488355328) : podestalaw07_ModsRoom_raw l m room = some true := by
  rw [podestalaw07_ModsRoom_raw]
  simp only [List.length_map]
  by_cases hl : l.length > 40
  · rw [decide_eq_true (show ((l.length : Nat) : Int) > 40 by omega)]; rfl
  by_cases hk : m.Kind = 1
  rotate_left
  · have : (m.Kind != 1) = true := by simp [hk]
    rw [this, Bool.or_true]; rfl
  have hk1 : (m.Kind != 1) = false := by simp [hk]
  have hk2 : (m.Kind == 1) = true := by simp [hk]
  rw [decide_eq_false (show ¬ ((l.length : Nat) : Int) > 40 by omega), hk1]
  cases decide (((m.Acts.length : Nat) : Int) > 20)
  rotate_left
  · rfl
  simp only [Bool.or_false, cond_false]
  generalize IntKind.i64.wrap (Int.tmod room 9) = n
  rw [applyO_eq (by omega), applyO_eq (by omega), Option.bind_some, Option.bind_some, ModsRoom_l0s_eq]
  unfold applyM
  simp only [hk2, cond_true]
  cases (!(tableR l)) || (!(mods_Sound m))
  rotate_left
  · rfl
  simp only [cond_false]
  unfold addM
  cases hf : l.find? (fun x => rule_Key x (mods_Rule m)) with
  | some x =>
    have ha : l.any (fun x => rule_Key x (mods_Rule m)) = true := List.any_eq_true.2 ⟨x, List.mem_of_find?_eq_some hf, by simpa using List.find?_some hf⟩
    rw [ha]
    simp only
    cases x.Owner != m.Owner
    · cases m.Check && l.any (fun x => mods_add_2 x (mods_Rule m)) <;> rfl
    · rfl
  | none =>
    have ha : l.any (fun x => rule_Key x (mods_Rule m)) = false := by
      rw [Bool.eq_false_iff]
      intro h
      obtain ⟨x, hx, hq⟩ := List.any_eq_true.1 h
      have := List.find?_eq_none.1 hf x hx
      exact this hq
    rw [ha]
    simp only
    cases m.Check && l.any (fun x => mods_add_2 x (mods_Rule m))
    · rw [decide_eq_false (show ¬ ((l.length : Nat) : Int) ≥ 1000 by omega)]
      simp only [Bool.false_eq_true, if_false]
      simp only [letT, bne_self_eq_false, cond_false, Bool.or_self, Bool.not_false, Bool.true_and]
      cases decide (((l.length : Nat) : Int) ≥ n) <;> rfl
    · rfl

end Go.Proofs.Ytockmihfoppkpaa

set_option linter.unusedVariables false
set_option linter.unusedSimpArgs false
set_option maxRecDepth 100000
set_option maxHeartbeats 4000000
namespace Go.Proofs.Ytockmihfoppkpaa
open Go.Sh
theorem Act.beq_eq (x y : Act) : ((x.Kind == y.Kind) && ((x.Port == y.Port) && ((x.Field == y.Field) && (x.Value == y.Value)))) = (x == y) := by
  rw [Bool.eq_iff_iff]
  simp only [Bool.and_eq_true, beq_iff_eq]
  cases x; cases y
  simp

theorem zipAll_ne {α β : Type} (f : α → β → Bool) {a : List α} {b : List β} (h : ¬ a.length = b.length) : zipAll f a b = false := by
  rw [Bool.eq_false_iff]
  exact fun q => h (zipAll_len q)

/-! ### slices.Equal: function 69 -/
noncomputable def slices_Equal__api_Act_F : Go.Sh.Fn := ⟨69, bodyOf Try.f69, 26⟩
def slices_Equal__api_Act_k0 : List Kd := [.pure, .pure, .pure, .pure, .pure, .pure, .pure, .pure, .pure]
def slices_Equal__api_Act_l0s (s2 : List Act) : List Act → Nat → Option (Sum (Unit) (Bool))
  | [], t13 =>
    some (.inl ())
  | x :: rest, t13 =>
    (ixO s2 ((t13 : Nat) : Int)).bind fun x1 =>
    (bif (!((x.Kind == x1.Kind) && ((x.Port == x1.Port) && ((x.Field == x1.Field) && (x.Value == x1.Value))))) then
      some (.inr false)
    else
      slices_Equal__api_Act_l0s s2 rest (t13 + 1) )
theorem slices_Equal__api_Act_l0_walk (s1 : List Act) (s2 : List Act) (f_s1 : Bool) (f_s2 : Bool) (r : Bool) (c0 : Ctx) (hc0 : c0.m.length = 0) (res : Sum (Unit) (Bool)) (J : ∀ w : Unit, res = .inl w → AR Try.prog tab slices_Equal__api_Act_F c0 (Rp tab.S c0 (.sc (.bool r)) []) [.code [1, 1, 1]] [] []) (Jr : ∀ w, res = .inr w → w = r) :
    ∀ (rest : List Act) (t13 : Nat) (hd : s1.drop t13 = rest) (H : slices_Equal__api_Act_l0s s2 rest t13 = some res), AR Try.prog tab slices_Equal__api_Act_F c0 (Rp tab.S c0 (.sc (.bool r)) []) [.code [1, 1, 0, 1, 0, 0], .loop [1, 1, 0, 1, 0], .blk 0, .code [1, 1, 1]] [(0, .sl 48 (List.map Act.av s1) f_s1), (1, .sl 48 (List.map Act.av s2) f_s2), (12, .sc (.int .i64 (((List.map Act.av s1).length : Nat) : Int))), (13, .sc (.int .i64 ((t13 : Nat) : Int)))] [] := by
  have hG := tab_ok
  have hm := mixed
  intro rest
  induction rest with
  | nil =>
    intro t13 hd  H
    rw [slices_Equal__api_Act_l0s] at H
    refine AR.facts 0 rfl fun hf => ?_
    have hlen : s1.length ≤ 9223372036854775807 := by have hq := len_ok hf.2.1; rw [List.length_map] at hq; exact hq
    have hge : s1.length ≤ t13 := List.drop_eq_nil_iff.1 hd
    have hc : (decide (((t13 : Nat) : Int) < (((List.map Act.av s1).length : Nat) : Int))) = false := by rw [List.length_map]; exact decide_eq_false (by omega)
    refine AR.seg hG hm 3 [0, 1, 12, 13, 14] (k' := [.code [1, 1, 0, 1, 0, 0, 1, 0], .code [1, 1, 0, 1, 0, 0, 1, 1], .loop [1, 1, 0, 1, 0], .blk 0, .code [1, 1, 1]]) (t' := [(0, .sl 48 (List.map Act.av s1) f_s1), (1, .sl 48 (List.map Act.av s2) f_s2), (12, .sc (.int .i64 (((List.map Act.av s1).length : Nat) : Int))), (13, .sc (.int .i64 ((t13 : Nat) : Int))), (14, .sc (.bool (decide (((t13 : Nat) : Int) < (((List.map Act.av s1).length : Nat) : Int)))))]) (h' := []) (by kernel_rfl) ?_
    refine AR.cond (.tmp 14) (decide (((t13 : Nat) : Int) < (((List.map Act.av s1).length : Nat) : Int))) (by kernel_rfl) (by kernel_rfl) (fun hb => ?ht8) (fun hb => ?hf8)
    case ht8 => exact absurd (hb.symm.trans hc) (by decide)
    case hf8 =>
      refine AR.seg hG hm 1 [] (k' := [.code [1, 1, 1]]) (t' := []) (h' := []) (by kernel_rfl) ?_
      refine AR.keep [] (t' := []) (by kernel_rfl) ?_
      exact J () (Option.some.inj H).symm
  | cons x rest ih =>
    intro t13 hd  H
    rw [slices_Equal__api_Act_l0s] at H
    refine AR.facts 0 rfl fun hf => ?_
    have hlen : s1.length ≤ 9223372036854775807 := by have hq := len_ok hf.2.1; rw [List.length_map] at hq; exact hq
    obtain ⟨hlt, hv_t13, hd2⟩ := drop_cons hd
    have hc : (decide (((t13 : Nat) : Int) < (((List.map Act.av s1).length : Nat) : Int))) = true := by rw [List.length_map]; exact decide_eq_true (by omega)
    have hw : IntKind.i64.wrap (((t13 : Nat) : Int) + 1) = ((t13 + 1 : Nat) : Int) := wrapI_succ (by omega)
    refine AR.seg hG hm 3 [0, 1, 12, 13, 14] (k' := [.code [1, 1, 0, 1, 0, 0, 1, 0], .code [1, 1, 0, 1, 0, 0, 1, 1], .loop [1, 1, 0, 1, 0], .blk 0, .code [1, 1, 1]]) (t' := [(0, .sl 48 (List.map Act.av s1) f_s1), (1, .sl 48 (List.map Act.av s2) f_s2), (12, .sc (.int .i64 (((List.map Act.av s1).length : Nat) : Int))), (13, .sc (.int .i64 ((t13 : Nat) : Int))), (14, .sc (.bool (decide (((t13 : Nat) : Int) < (((List.map Act.av s1).length : Nat) : Int)))))]) (h' := []) (by kernel_rfl) ?_
    refine AR.cond (.tmp 14) (decide (((t13 : Nat) : Int) < (((List.map Act.av s1).length : Nat) : Int))) (by kernel_rfl) (by kernel_rfl) (fun hb => ?ht9) (fun hb => ?hf9)
    case ht9 =>
      refine AR.seg hG hm 6 [0, 1, 5, 12, 13] (k' := [.code [1, 1, 0, 1, 0, 0, 1, 1, 0, 0, 1, 0], .code [1, 1, 0, 1, 0, 0, 1, 1, 0, 0, 1, 1], .blk 1, .code [1, 1, 0, 1, 0, 0, 1, 1, 1], .loop [1, 1, 0, 1, 0], .blk 0, .code [1, 1, 1]]) (t' := [(0, .sl 48 (List.map Act.av s1) f_s1), (1, .sl 48 (List.map Act.av s2) f_s2), (5, .sc (.int .i64 ((t13 : Nat) : Int))), (12, .sc (.int .i64 (((List.map Act.av s1).length : Nat) : Int))), (13, .sc (.int .i64 ((t13 : Nat) : Int)))]) (h' := []) (by kernel_rfl) ?_
      refine AR.reg hm slices_Equal__api_Act_k0 (by kernel_rfl) ?_
      refine DK.seg hG 2 [0, 1, 5, 12, 13, 16, 17] (t' := [(0, .sl 48 (List.map Act.av s1) f_s1), (1, .sl 48 (List.map Act.av s2) f_s2), (5, .sc (.int .i64 ((t13 : Nat) : Int))), (12, .sc (.int .i64 (((List.map Act.av s1).length : Nat) : Int))), (13, .sc (.int .i64 ((t13 : Nat) : Int))), (16, .sl 48 (List.map Act.av s1) f_s1), (17, .sc (.int .i64 ((t13 : Nat) : Int)))]) (h' := []) (by kernel_rfl) rfl ?_
      refine DK.op' [0, 1, 5, 12, 13, 18] (t' := [(0, .sl 48 (List.map Act.av s1) f_s1), (1, .sl 48 (List.map Act.av s2) f_s2), (5, .sc (.int .i64 ((t13 : Nat) : Int))), (12, .sc (.int .i64 (((List.map Act.av s1).length : Nat) : Int))), (13, .sc (.int .i64 ((t13 : Nat) : Int))), (18, .ep [.sc (.int .i64 x.Kind), .sc (.int .i64 x.Port), .sc (.int .i64 x.Field), .sc (.int .u64 x.Value)] 0 none)]) (h' := []) (LSpec.index' (r := Act.av x) (fs := [.sc (.int .i64 x.Kind), .sc (.int .i64 x.Port), .sc (.int .i64 x.Field), .sc (.int .u64 x.Value)]) hG (rows := List.map Act.av s1) (j := ((t13 : Nat) : Int)) (by kernel_rfl) (ixO_map hv_t13 _) (by kernel_rfl)) (by kernel_rfl) rfl (by kernel_rfl) rfl ?_
      refine DK.seg hG 3 [0, 1, 12, 13, 19, 20, 21] (t' := [(0, .sl 48 (List.map Act.av s1) f_s1), (1, .sl 48 (List.map Act.av s2) f_s2), (12, .sc (.int .i64 (((List.map Act.av s1).length : Nat) : Int))), (13, .sc (.int .i64 ((t13 : Nat) : Int))), (19, Act.av x), (20, .sl 48 (List.map Act.av s2) f_s2), (21, .sc (.int .i64 ((t13 : Nat) : Int)))]) (h' := []) (by kernel_rfl) rfl ?_
      obtain ⟨x1, hv, H⟩ := Option.bind_eq_some_iff.1 H
      refine DK.op' [0, 1, 12, 13, 19, 22] (t' := [(0, .sl 48 (List.map Act.av s1) f_s1), (1, .sl 48 (List.map Act.av s2) f_s2), (12, .sc (.int .i64 (((List.map Act.av s1).length : Nat) : Int))), (13, .sc (.int .i64 ((t13 : Nat) : Int))), (19, Act.av x), (22, .ep [.sc (.int .i64 x1.Kind), .sc (.int .i64 x1.Port), .sc (.int .i64 x1.Field), .sc (.int .u64 x1.Value)] 0 none)]) (h' := []) (LSpec.index' (r := Act.av x1) (fs := [.sc (.int .i64 x1.Kind), .sc (.int .i64 x1.Port), .sc (.int .i64 x1.Field), .sc (.int .u64 x1.Value)]) hG (rows := List.map Act.av s2) (j := ((t13 : Nat) : Int)) (by kernel_rfl) (ixO_map hv _) (by kernel_rfl)) (by kernel_rfl) rfl (by kernel_rfl) rfl ?_
      refine DK.seg hG 1 [0, 1, 12, 13, 19, 23] (t' := [(0, .sl 48 (List.map Act.av s1) f_s1), (1, .sl 48 (List.map Act.av s2) f_s2), (12, .sc (.int .i64 (((List.map Act.av s1).length : Nat) : Int))), (13, .sc (.int .i64 ((t13 : Nat) : Int))), (19, Act.av x), (23, Act.av x1)]) (h' := []) (by kernel_rfl) rfl ?_
      refine DK.op' [0, 1, 12, 13, 24] (t' := [(0, .sl 48 (List.map Act.av s1) f_s1), (1, .sl 48 (List.map Act.av s2) f_s2), (12, .sc (.int .i64 (((List.map Act.av s1).length : Nat) : Int))), (13, .sc (.int .i64 ((t13 : Nat) : Int))), (24, .sc (.bool (!((x.Kind == x1.Kind) && ((x.Port == x1.Port) && ((x.Field == x1.Field) && (x.Value == x1.Value)))))))]) (h' := []) (LSpec.eq' 9 (r := (!((x.Kind == x1.Kind) && ((x.Port == x1.Port) && ((x.Field == x1.Field) && (x.Value == x1.Value)))))) (by kernel_rfl)) (by kernel_rfl) rfl (by kernel_rfl) rfl ?_
      refine DK.done (by kernel_rfl) (by kernel_rfl) ?_
      refine AR.cond (.tmp 24) (!((x.Kind == x1.Kind) && ((x.Port == x1.Port) && ((x.Field == x1.Field) && (x.Value == x1.Value))))) (by kernel_rfl) (by kernel_rfl) (fun hb => ?ht10) (fun hb => ?hf10)
      case ht10 =>
        replace H := cond_t hb H
        refine AR.seg hG hm 2 [4] (k' := [.code [1, 1, 0, 1, 0, 0, 1, 1, 0, 0, 1, 1, 0, 1], .blk 1, .code [1, 1, 0, 1, 0, 0, 1, 1, 1], .loop [1, 1, 0, 1, 0], .blk 0, .code [1, 1, 1]]) (t' := [(4, .sc (.bool false))]) (h' := []) (by kernel_rfl) ?_
        obtain rfl := Option.some.inj H
        obtain rfl := Jr _ rfl
        exact AR.ret0 (fn := Try.f69) hG Try.func69 (by kernel_rfl) hc0 (r0 := .sc (.bool false)) (by kernel_rfl) (WkV.refl _)
      case hf10 =>
        replace H := cond_f hb H
        refine AR.seg hG hm 3 [0, 1, 12, 13] (k' := [.loop [1, 1, 0, 1, 0], .blk 0, .code [1, 1, 1]]) (t' := [(0, .sl 48 (List.map Act.av s1) f_s1), (1, .sl 48 (List.map Act.av s2) f_s2), (12, .sc (.int .i64 (((List.map Act.av s1).length : Nat) : Int))), (13, .sc (.int .i64 (IntKind.i64.wrap (((t13 : Nat) : Int) + 1))))]) (h' := []) (by kernel_rfl) ?_
        refine AR.keep [0, 1, 12, 13] (t' := [(0, .sl 48 (List.map Act.av s1) f_s1), (1, .sl 48 (List.map Act.av s2) f_s2), (12, .sc (.int .i64 (((List.map Act.av s1).length : Nat) : Int))), (13, .sc (.int .i64 (IntKind.i64.wrap (((t13 : Nat) : Int) + 1))))]) (by kernel_rfl) ?_
        refine AR.loop_round ?_
        rw [hw]
        exact ih (t13 + 1) hd2 H
    case hf9 => exact absurd (hc.symm.trans hb) (by decide)

def slices_Equal__api_Act_raw (s1 : List Act) (s2 : List Act) : Option (Bool) :=
  (bif ((((List.map Act.av s1).length : Nat) : Int) != (((List.map Act.av s2).length : Nat) : Int)) then
    some false
  else
    loopO (slices_Equal__api_Act_l0s s2 s1 0) fun v =>
    some true)
theorem slices_Equal__api_Act_walk (s1 : List Act) (s2 : List Act) (f_s1 : Bool) (f_s2 : Bool) (r : Bool) (H : slices_Equal__api_Act_raw s1 s2 = some r) :
    ACalls Try.prog tab.S 69 [.sl 48 (List.map Act.av s1) f_s1, .sl 48 (List.map Act.av s2) f_s2] [] (.sc (.bool r)) [] := by
  have hG := tab_ok
  have hm := mixed
  refine ACalls.of_AR (G := tab) slices_Equal__api_Act_F (fn := Try.f69) Try.func69 (by kernel_rfl) (by kernel_rfl) (by kernel_rfl) (Nat.le_of_ble_eq_true (by kernel_rfl)) ?_
  intro c0 hc0
  replace hc0 : c0.m.length = 0 := hc0
  rw [slices_Equal__api_Act_raw] at H
  refine AR.seg hG hm 5 [0, 1, 10] (k' := [.code [1, 0, 1], .code [1, 1]]) (t' := [(0, .sl 48 (List.map Act.av s1) f_s1), (1, .sl 48 (List.map Act.av s2) f_s2), (10, .sc (.bool ((((List.map Act.av s1).length : Nat) : Int) != (((List.map Act.av s2).length : Nat) : Int))))]) (h' := []) (by kernel_rfl) ?_
  refine AR.cond (.tmp 10) ((((List.map Act.av s1).length : Nat) : Int) != (((List.map Act.av s2).length : Nat) : Int)) (by kernel_rfl) (by kernel_rfl) (fun hb => ?ht1) (fun hb => ?hf1)
  case ht1 =>
    replace H := cond_t hb H
    refine AR.seg hG hm 2 [4] (k' := [.code [1, 0, 1, 0, 1], .code [1, 1]]) (t' := [(4, .sc (.bool false))]) (h' := []) (by kernel_rfl) ?_
    obtain rfl := Option.some.inj H
    exact AR.ret0 (fn := Try.f69) hG Try.func69 (by kernel_rfl) hc0 (r0 := .sc (.bool false)) (by kernel_rfl) (WkV.refl _)
  case hf1 =>
    replace H := cond_f hb H
    refine AR.seg hG hm 5 [0, 1, 12, 13] (k' := [.code [1, 1, 0, 1, 0], .blk 0, .code [1, 1, 1]]) (t' := [(0, .sl 48 (List.map Act.av s1) f_s1), (1, .sl 48 (List.map Act.av s2) f_s2), (12, .sc (.int .i64 (((List.map Act.av s1).length : Nat) : Int))), (13, .sc (.int .i64 0))]) (h' := []) (by kernel_rfl) ?_
    rcases loopO_some H with ⟨v, hv, H⟩ | hv
    case inr =>
      refine AR.into (by kernel_rfl) ?_
      exact slices_Equal__api_Act_l0_walk s1 s2 f_s1 f_s2 _ c0 hc0 (.inr _) (fun _ e => by cases e) (fun _ e => (Sum.inr.inj e).symm) s1 0 rfl hv
    refine AR.into (by kernel_rfl) ?_
    refine slices_Equal__api_Act_l0_walk s1 s2 f_s1 f_s2 r c0 hc0 (.inl v) (fun w e => ?_) (fun _ e => by cases e) s1 0 rfl hv
    have e := Sum.inl.inj e
    subst e
    refine AR.seg hG hm 2 [4] (k' := [.code [1, 1, 1, 1]]) (t' := [(4, .sc (.bool true))]) (h' := []) (by kernel_rfl) ?_
    obtain rfl := Option.some.inj H
    exact AR.ret0 (fn := Try.f69) hG Try.func69 (by kernel_rfl) hc0 (r0 := .sc (.bool true)) (by kernel_rfl) (WkV.refl _)

theorem slices_Equal__api_Act_ok (a b : List Act) (f_a f_b : Bool) : ACalls Try.prog tab.S 69 [.sl 48 (List.map Act.av a) f_a, .sl 48 (List.map Act.av b) f_b] [] (.sc (.bool (a == b))) [] := by
  refine slices_Equal__api_Act_walk a b f_a f_b _ ?_
  rw [slices_Equal__api_Act_raw, len_bne]
  by_cases h : a.length = b.length
  · simp only [h, decide_true, Bool.not_true, cond_false]
    rw [cmp_loop (v := false) (slices_Equal__api_Act_l0s b) b (fun x y => x == y) (fun _ => rfl) (fun x r i => by rw [slices_Equal__api_Act_l0s]; simp only [Act.beq_eq]) a 0 (by omega), List.drop_zero, zipAll_beq]
    cases a == b <;> rfl
  · have e : (a == b) = false := by
      rw [beq_eq_false_iff_ne]
      intro e
      exact h (by rw [e])
    rw [e]
    simp only [h, decide_false, Bool.not_false, cond_true]

/-! ### act.Same: function 45 -/
noncomputable def act_Same_F : Go.Sh.Fn := ⟨45, bodyOf Try.f45, 8⟩
def act_Same_k0 : List Kd := [.pure, .pure, .pure, .pure]
def act_Same (a : List Act) (b : List Act) : Bool :=
  (a == b)
theorem act_Same_walk (a : List Act) (b : List Act) (f_a : Bool) (f_b : Bool) (r : Bool) (H : act_Same a b = r) :
    ACalls Try.prog tab.S 45 [.sl 48 (List.map Act.av a) f_a, .sl 48 (List.map Act.av b) f_b] [] (.sc (.bool r)) [] := by
  have hG := tab_ok
  have hm := mixed
  refine ACalls.of_AR (G := tab) act_Same_F (fn := Try.f45) Try.func45 (by kernel_rfl) (by kernel_rfl) (by kernel_rfl) (Nat.le_of_ble_eq_true (by kernel_rfl)) ?_
  intro c0 hc0
  replace hc0 : c0.m.length = 0 := hc0
  rw [act_Same] at H
  refine AR.seg hG hm 3 [0, 1] (k' := [.code [1, 0], .code [1, 1]]) (t' := [(0, .sl 48 (List.map Act.av a) f_a), (1, .sl 48 (List.map Act.av b) f_b)]) (h' := []) (by kernel_rfl) ?_
  refine AR.reg hm act_Same_k0 (by kernel_rfl) ?_
  refine DK.seg hG 2 [5, 6] (t' := [(5, .sl 48 (List.map Act.av a) f_a), (6, .sl 48 (List.map Act.av b) f_b)]) (h' := []) (by kernel_rfl) rfl ?_
  refine DK.op' [7] (t' := [(7, .sc (.bool (a == b)))]) (h' := []) (LSpec.callP' (slices_Equal__api_Act_ok a b f_a f_b) (by kernel_rfl)) (by kernel_rfl) rfl (by kernel_rfl) rfl ?_
  refine DK.seg hG 1 [4] (t' := [(4, .sc (.bool (a == b)))]) (h' := []) (by kernel_rfl) rfl ?_
  refine DK.done (by kernel_rfl) (by kernel_rfl) ?_
  subst H
  exact AR.ret0 (fn := Try.f45) hG Try.func45 (by kernel_rfl) hc0 (r0 := .sc (.bool (a == b))) (by kernel_rfl) (WkV.refl _)
theorem act_Same_calls (a : List Act) (b : List Act) (f_a : Bool) (f_b : Bool) : ACalls Try.prog tab.S 45 [.sl 48 (List.map Act.av a) f_a, .sl 48 (List.map Act.av b) f_b] [] (.sc (.bool (act_Same a b))) [] := act_Same_walk a b f_a f_b _ rfl

/-! ### podestaref04.SameActs: function 42 -/
noncomputable def podestaref04_SameActs_F : Go.Sh.Fn := ⟨42, bodyOf Try.f42, 26⟩
def podestaref04_SameActs_k0 : List Kd := [.pure, .pure, .pure, .pure, .pure, .pure, .pure, .pure, .pure]
def podestaref04_SameActs_l0s (b : List Act) : List Act → Nat → Option (Sum (Unit) (Bool))
  | [], i =>
    some (.inl ())
  | x :: rest, i =>
    (ixO b ((i : Nat) : Int)).bind fun x1 =>
    (bif (!((x.Kind == x1.Kind) && ((x.Port == x1.Port) && ((x.Field == x1.Field) && (x.Value == x1.Value))))) then
      some (.inr false)
    else
      podestaref04_SameActs_l0s b rest (i + 1) )
theorem podestaref04_SameActs_l0_walk (a : List Act) (b : List Act) (f_a : Bool) (f_b : Bool) (r : Bool) (c0 : Ctx) (hc0 : c0.m.length = 0) (res : Sum (Unit) (Bool)) (J : ∀ w : Unit, res = .inl w → AR Try.prog tab podestaref04_SameActs_F c0 (Rp tab.S c0 (.sc (.bool r)) []) [.code [1, 1, 1]] [] []) (Jr : ∀ w, res = .inr w → w = r) :
    ∀ (rest : List Act) (i : Nat) (hd : a.drop i = rest) (H : podestaref04_SameActs_l0s b rest i = some res), AR Try.prog tab podestaref04_SameActs_F c0 (Rp tab.S c0 (.sc (.bool r)) []) [.code [1, 1, 0, 1, 0, 0], .loop [1, 1, 0, 1, 0], .blk 0, .code [1, 1, 1]] [(0, .sl 48 (List.map Act.av a) f_a), (1, .sl 48 (List.map Act.av b) f_b), (5, .sc (.int .i64 ((i : Nat) : Int)))] [] := by
  have hG := tab_ok
  have hm := mixed
  intro rest
  induction rest with
  | nil =>
    intro i hd  H
    rw [podestaref04_SameActs_l0s] at H
    refine AR.facts 0 rfl fun hf => ?_
    have hlen : a.length ≤ 9223372036854775807 := by have hq := len_ok hf.2.1; rw [List.length_map] at hq; exact hq
    have hge : a.length ≤ i := List.drop_eq_nil_iff.1 hd
    have hc : (decide (((i : Nat) : Int) < (((List.map Act.av a).length : Nat) : Int))) = false := by rw [List.length_map]; exact decide_eq_false (by omega)
    refine AR.seg hG hm 3 [0, 1, 5, 14] (k' := [.code [1, 1, 0, 1, 0, 0, 0, 1], .code [1, 1, 0, 1, 0, 0, 1], .loop [1, 1, 0, 1, 0], .blk 0, .code [1, 1, 1]]) (t' := [(0, .sl 48 (List.map Act.av a) f_a), (1, .sl 48 (List.map Act.av b) f_b), (5, .sc (.int .i64 ((i : Nat) : Int))), (14, .sc (.bool (decide (((i : Nat) : Int) < (((List.map Act.av a).length : Nat) : Int)))))]) (h' := []) (by kernel_rfl) ?_
    refine AR.cond (.tmp 14) (decide (((i : Nat) : Int) < (((List.map Act.av a).length : Nat) : Int))) (by kernel_rfl) (by kernel_rfl) (fun hb => ?ht8) (fun hb => ?hf8)
    case ht8 => exact absurd (hb.symm.trans hc) (by decide)
    case hf8 =>
      refine AR.seg hG hm 1 [] (k' := [.code [1, 1, 1]]) (t' := []) (h' := []) (by kernel_rfl) ?_
      refine AR.keep [] (t' := []) (by kernel_rfl) ?_
      exact J () (Option.some.inj H).symm
  | cons x rest ih =>
    intro i hd  H
    rw [podestaref04_SameActs_l0s] at H
    refine AR.facts 0 rfl fun hf => ?_
    have hlen : a.length ≤ 9223372036854775807 := by have hq := len_ok hf.2.1; rw [List.length_map] at hq; exact hq
    obtain ⟨hlt, hv_i, hd2⟩ := drop_cons hd
    have hc : (decide (((i : Nat) : Int) < (((List.map Act.av a).length : Nat) : Int))) = true := by rw [List.length_map]; exact decide_eq_true (by omega)
    have hw : IntKind.i64.wrap (((i : Nat) : Int) + 1) = ((i + 1 : Nat) : Int) := wrapI_succ (by omega)
    refine AR.seg hG hm 3 [0, 1, 5, 14] (k' := [.code [1, 1, 0, 1, 0, 0, 0, 1], .code [1, 1, 0, 1, 0, 0, 1], .loop [1, 1, 0, 1, 0], .blk 0, .code [1, 1, 1]]) (t' := [(0, .sl 48 (List.map Act.av a) f_a), (1, .sl 48 (List.map Act.av b) f_b), (5, .sc (.int .i64 ((i : Nat) : Int))), (14, .sc (.bool (decide (((i : Nat) : Int) < (((List.map Act.av a).length : Nat) : Int)))))]) (h' := []) (by kernel_rfl) ?_
    refine AR.cond (.tmp 14) (decide (((i : Nat) : Int) < (((List.map Act.av a).length : Nat) : Int))) (by kernel_rfl) (by kernel_rfl) (fun hb => ?ht9) (fun hb => ?hf9)
    case ht9 =>
      refine AR.seg hG hm 4 [0, 1, 5] (k' := [.code [1, 1, 0, 1, 0, 0, 1, 0, 0, 0], .code [1, 1, 0, 1, 0, 0, 1, 0, 0, 1], .blk 1, .code [1, 1, 0, 1, 0, 0, 1, 1], .loop [1, 1, 0, 1, 0], .blk 0, .code [1, 1, 1]]) (t' := [(0, .sl 48 (List.map Act.av a) f_a), (1, .sl 48 (List.map Act.av b) f_b), (5, .sc (.int .i64 ((i : Nat) : Int)))]) (h' := []) (by kernel_rfl) ?_
      refine AR.reg hm podestaref04_SameActs_k0 (by kernel_rfl) ?_
      refine DK.seg hG 2 [0, 1, 5, 17, 18] (t' := [(0, .sl 48 (List.map Act.av a) f_a), (1, .sl 48 (List.map Act.av b) f_b), (5, .sc (.int .i64 ((i : Nat) : Int))), (17, .sl 48 (List.map Act.av a) f_a), (18, .sc (.int .i64 ((i : Nat) : Int)))]) (h' := []) (by kernel_rfl) rfl ?_
      refine DK.op' [0, 1, 5, 19] (t' := [(0, .sl 48 (List.map Act.av a) f_a), (1, .sl 48 (List.map Act.av b) f_b), (5, .sc (.int .i64 ((i : Nat) : Int))), (19, .ep [.sc (.int .i64 x.Kind), .sc (.int .i64 x.Port), .sc (.int .i64 x.Field), .sc (.int .u64 x.Value)] 0 none)]) (h' := []) (LSpec.index' (r := Act.av x) (fs := [.sc (.int .i64 x.Kind), .sc (.int .i64 x.Port), .sc (.int .i64 x.Field), .sc (.int .u64 x.Value)]) hG (rows := List.map Act.av a) (j := ((i : Nat) : Int)) (by kernel_rfl) (ixO_map hv_i _) (by kernel_rfl)) (by kernel_rfl) rfl (by kernel_rfl) rfl ?_
      refine DK.seg hG 3 [0, 1, 5, 20, 21, 22] (t' := [(0, .sl 48 (List.map Act.av a) f_a), (1, .sl 48 (List.map Act.av b) f_b), (5, .sc (.int .i64 ((i : Nat) : Int))), (20, Act.av x), (21, .sl 48 (List.map Act.av b) f_b), (22, .sc (.int .i64 ((i : Nat) : Int)))]) (h' := []) (by kernel_rfl) rfl ?_
      obtain ⟨x1, hv, H⟩ := Option.bind_eq_some_iff.1 H
      refine DK.op' [0, 1, 5, 20, 23] (t' := [(0, .sl 48 (List.map Act.av a) f_a), (1, .sl 48 (List.map Act.av b) f_b), (5, .sc (.int .i64 ((i : Nat) : Int))), (20, Act.av x), (23, .ep [.sc (.int .i64 x1.Kind), .sc (.int .i64 x1.Port), .sc (.int .i64 x1.Field), .sc (.int .u64 x1.Value)] 0 none)]) (h' := []) (LSpec.index' (r := Act.av x1) (fs := [.sc (.int .i64 x1.Kind), .sc (.int .i64 x1.Port), .sc (.int .i64 x1.Field), .sc (.int .u64 x1.Value)]) hG (rows := List.map Act.av b) (j := ((i : Nat) : Int)) (by kernel_rfl) (ixO_map hv _) (by kernel_rfl)) (by kernel_rfl) rfl (by kernel_rfl) rfl ?_
      refine DK.seg hG 1 [0, 1, 5, 20, 24] (t' := [(0, .sl 48 (List.map Act.av a) f_a), (1, .sl 48 (List.map Act.av b) f_b), (5, .sc (.int .i64 ((i : Nat) : Int))), (20, Act.av x), (24, Act.av x1)]) (h' := []) (by kernel_rfl) rfl ?_
      refine DK.op' [0, 1, 5, 25] (t' := [(0, .sl 48 (List.map Act.av a) f_a), (1, .sl 48 (List.map Act.av b) f_b), (5, .sc (.int .i64 ((i : Nat) : Int))), (25, .sc (.bool (!((x.Kind == x1.Kind) && ((x.Port == x1.Port) && ((x.Field == x1.Field) && (x.Value == x1.Value)))))))]) (h' := []) (LSpec.eq' 9 (r := (!((x.Kind == x1.Kind) && ((x.Port == x1.Port) && ((x.Field == x1.Field) && (x.Value == x1.Value)))))) (by kernel_rfl)) (by kernel_rfl) rfl (by kernel_rfl) rfl ?_
      refine DK.done (by kernel_rfl) (by kernel_rfl) ?_
      refine AR.cond (.tmp 25) (!((x.Kind == x1.Kind) && ((x.Port == x1.Port) && ((x.Field == x1.Field) && (x.Value == x1.Value))))) (by kernel_rfl) (by kernel_rfl) (fun hb => ?ht10) (fun hb => ?hf10)
      case ht10 =>
        replace H := cond_t hb H
        refine AR.seg hG hm 2 [4] (k' := [.code [1, 1, 0, 1, 0, 0, 1, 0, 0, 1, 0, 1], .blk 1, .code [1, 1, 0, 1, 0, 0, 1, 1], .loop [1, 1, 0, 1, 0], .blk 0, .code [1, 1, 1]]) (t' := [(4, .sc (.bool false))]) (h' := []) (by kernel_rfl) ?_
        obtain rfl := Option.some.inj H
        obtain rfl := Jr _ rfl
        exact AR.ret0 (fn := Try.f42) hG Try.func42 (by kernel_rfl) hc0 (r0 := .sc (.bool false)) (by kernel_rfl) (WkV.refl _)
      case hf10 =>
        replace H := cond_f hb H
        refine AR.seg hG hm 3 [0, 1, 5] (k' := [.loop [1, 1, 0, 1, 0], .blk 0, .code [1, 1, 1]]) (t' := [(0, .sl 48 (List.map Act.av a) f_a), (1, .sl 48 (List.map Act.av b) f_b), (5, .sc (.int .i64 (IntKind.i64.wrap (((i : Nat) : Int) + 1))))]) (h' := []) (by kernel_rfl) ?_
        refine AR.keep [0, 1, 5] (t' := [(0, .sl 48 (List.map Act.av a) f_a), (1, .sl 48 (List.map Act.av b) f_b), (5, .sc (.int .i64 (IntKind.i64.wrap (((i : Nat) : Int) + 1))))]) (by kernel_rfl) ?_
        refine AR.loop_round ?_
        rw [hw]
        exact ih (i + 1) hd2 H
    case hf9 => exact absurd (hc.symm.trans hb) (by decide)

def podestaref04_SameActs_raw (a : List Act) (b : List Act) : Option (Bool) :=
  (bif ((((List.map Act.av a).length : Nat) : Int) != (((List.map Act.av b).length : Nat) : Int)) then
    some false
  else
    loopO (podestaref04_SameActs_l0s b a 0) fun v =>
    some true)
theorem podestaref04_SameActs_walk (a : List Act) (b : List Act) (f_a : Bool) (f_b : Bool) (r : Bool) (H : podestaref04_SameActs_raw a b = some r) :
    ACalls Try.prog tab.S 42 [.sl 48 (List.map Act.av a) f_a, .sl 48 (List.map Act.av b) f_b] [] (.sc (.bool r)) [] := by
  have hG := tab_ok
  have hm := mixed
  refine ACalls.of_AR (G := tab) podestaref04_SameActs_F (fn := Try.f42) Try.func42 (by kernel_rfl) (by kernel_rfl) (by kernel_rfl) (Nat.le_of_ble_eq_true (by kernel_rfl)) ?_
  intro c0 hc0
  replace hc0 : c0.m.length = 0 := hc0
  rw [podestaref04_SameActs_raw] at H
  refine AR.seg hG hm 5 [0, 1, 10] (k' := [.code [1, 0, 1], .code [1, 1]]) (t' := [(0, .sl 48 (List.map Act.av a) f_a), (1, .sl 48 (List.map Act.av b) f_b), (10, .sc (.bool ((((List.map Act.av a).length : Nat) : Int) != (((List.map Act.av b).length : Nat) : Int))))]) (h' := []) (by kernel_rfl) ?_
  refine AR.cond (.tmp 10) ((((List.map Act.av a).length : Nat) : Int) != (((List.map Act.av b).length : Nat) : Int)) (by kernel_rfl) (by kernel_rfl) (fun hb => ?ht1) (fun hb => ?hf1)
  case ht1 =>
    replace H := cond_t hb H
    refine AR.seg hG hm 2 [4] (k' := [.code [1, 0, 1, 0, 1], .code [1, 1]]) (t' := [(4, .sc (.bool false))]) (h' := []) (by kernel_rfl) ?_
    obtain rfl := Option.some.inj H
    exact AR.ret0 (fn := Try.f42) hG Try.func42 (by kernel_rfl) hc0 (r0 := .sc (.bool false)) (by kernel_rfl) (WkV.refl _)
  case hf1 =>
    replace H := cond_f hb H
    refine AR.seg hG hm 5 [0, 1, 5] (k' := [.code [1, 1, 0, 1, 0], .blk 0, .code [1, 1, 1]]) (t' := [(0, .sl 48 (List.map Act.av a) f_a), (1, .sl 48 (List.map Act.av b) f_b), (5, .sc (.int .i64 0))]) (h' := []) (by kernel_rfl) ?_
    rcases loopO_some H with ⟨v, hv, H⟩ | hv
    case inr =>
      refine AR.into (by kernel_rfl) ?_
      exact podestaref04_SameActs_l0_walk a b f_a f_b _ c0 hc0 (.inr _) (fun _ e => by cases e) (fun _ e => (Sum.inr.inj e).symm) a 0 rfl hv
    refine AR.into (by kernel_rfl) ?_
    refine podestaref04_SameActs_l0_walk a b f_a f_b r c0 hc0 (.inl v) (fun w e => ?_) (fun _ e => by cases e) a 0 rfl hv
    have e := Sum.inl.inj e
    subst e
    refine AR.seg hG hm 2 [4] (k' := [.code [1, 1, 1, 1]]) (t' := [(4, .sc (.bool true))]) (h' := []) (by kernel_rfl) ?_
    obtain rfl := Option.some.inj H
    exact AR.ret0 (fn := Try.f42) hG Try.func42 (by kernel_rfl) hc0 (r0 := .sc (.bool true)) (by kernel_rfl) (WkV.refl _)

theorem podestaref04_SameActs_ok (a b : List Act) (f_a f_b : Bool) : ACalls Try.prog tab.S 42 [.sl 48 (List.map Act.av a) f_a, .sl 48 (List.map Act.av b) f_b] [] (.sc (.bool (a == b))) [] := by
  refine podestaref04_SameActs_walk a b f_a f_b _ ?_
  rw [podestaref04_SameActs_raw, len_bne]
  by_cases h : a.length = b.length
  · simp only [h, decide_true, Bool.not_true, cond_false]
    rw [cmp_loop (v := false) (podestaref04_SameActs_l0s b) b (fun x y => x == y) (fun _ => rfl) (fun x r i => by rw [podestaref04_SameActs_l0s]; simp only [Act.beq_eq]) a 0 (by omega), List.drop_zero, zipAll_beq]
    cases a == b <;> rfl
  · have e : (a == b) = false := by
      rw [beq_eq_false_iff_ne]
      intro e
      exact h (by rw [e])
    rw [e]
    simp only [h, decide_false, Bool.not_false, cond_true]

/-! ### podestaref04.Key: function 29 -/
noncomputable def podestaref04_Key_F : Go.Sh.Fn := ⟨29, bodyOf Try.f29, 17⟩
def podestaref04_Key_k0 : List Kd := [.pure, .read, .pure, .read, .pure, .pure, .pure, .read, .pure, .read, .pure, .pure, .pure]
def podestaref04_Key (a : Rule) (b : Rule) : Bool :=
  (((a.Match.Value == b.Match.Value) && (a.Match.Care == b.Match.Care)) && (a.Prio == b.Prio))
theorem podestaref04_Key_walk (a : Rule) (b : Rule) (r : Bool) (H : podestaref04_Key a b = r) :
    ACalls Try.prog tab.S 29 [Rule.av a, Rule.av b] [] (.sc (.bool r)) [] := by
  have hG := tab_ok
  have hm := mixed
  refine ACalls.of_AR (G := tab) podestaref04_Key_F (fn := Try.f29) Try.func29 (by kernel_rfl) (by kernel_rfl) (by kernel_rfl) (Nat.le_of_ble_eq_true (by kernel_rfl)) ?_
  intro c0 hc0
  replace hc0 : c0.m.length = 0 := hc0
  rw [podestaref04_Key] at H
  refine AR.seg hG hm 3 [2, 3] (k' := [.code [1, 0], .code [1, 1]]) (t' := [(2, .ptr 0 0 none), (3, .ptr 1 0 none)]) (h' := [.box 40 (Rule.ch a), .box 40 (Rule.ch b)]) (by kernel_rfl) ?_
  refine AR.reg hm podestaref04_Key_k0 (by kernel_rfl) ?_
  refine DK.seg hG 4 [2, 3, 6, 8] (t' := [(2, .ptr 0 0 none), (3, .ptr 1 0 none), (6, Cube.av a.Match), (8, Cube.av b.Match)]) (h' := [.box 40 (Rule.ch a), .box 40 (Rule.ch b)]) (by kernel_rfl) rfl ?_
  refine DK.op' [2, 3, 9] (t' := [(2, .ptr 0 0 none), (3, .ptr 1 0 none), (9, .sc (.bool ((a.Match.Value == b.Match.Value) && (a.Match.Care == b.Match.Care))))]) (h' := [.box 40 (Rule.ch a), .box 40 (Rule.ch b)]) (LSpec.eq' 9 (r := ((a.Match.Value == b.Match.Value) && (a.Match.Care == b.Match.Care))) (by kernel_rfl)) (by kernel_rfl) rfl (by kernel_rfl) rfl ?_
  refine DK.seg hG 1 [2, 3, 10] (t' := [(2, .ptr 0 0 none), (3, .ptr 1 0 none), (10, .sc (.bool ((a.Match.Value == b.Match.Value) && (a.Match.Care == b.Match.Care))))]) (h' := [.box 40 (Rule.ch a), .box 40 (Rule.ch b)]) (by kernel_rfl) rfl ?_
  refine DK.mux 10 ((a.Match.Value == b.Match.Value) && (a.Match.Care == b.Match.Care)) (j := 12) (h' := [.box 40 (Rule.ch a), .box 40 (Rule.ch b)]) (by kernel_rfl) (fun z => [(16, .sc (.bool (z && (a.Prio == b.Prio))))]) ?J1 (fun hb J => ?ht1) (fun hb J => ?hf1)
  case ht1 =>
    exact DK.seg hG 6 [16] (by kernel_rfl) rfl J
  case hf1 =>
    exact DK.seg hG 6 [16] (by kernel_rfl) rfl J
  refine DK.seg hG 1 [4] (t' := [(4, .sc (.bool (((a.Match.Value == b.Match.Value) && (a.Match.Care == b.Match.Care)) && (a.Prio == b.Prio))))]) (h' := [.box 40 (Rule.ch a), .box 40 (Rule.ch b)]) (by kernel_rfl) rfl ?_
  refine DK.done (by kernel_rfl) (by kernel_rfl) ?_
  subst H
  exact AR.ret0 (fn := Try.f29) hG Try.func29 (by kernel_rfl) hc0 (r0 := .sc (.bool (((a.Match.Value == b.Match.Value) && (a.Match.Care == b.Match.Care)) && (a.Prio == b.Prio)))) (by kernel_rfl) (WkV.refl _)
theorem podestaref04_Key_calls (a : Rule) (b : Rule) : ACalls Try.prog tab.S 29 [Rule.av a, Rule.av b] [] (.sc (.bool (podestaref04_Key a b))) [] := podestaref04_Key_walk a b _ rfl

/-! ### podestaref04.Equal: function 18 -/
noncomputable def podestaref04_Equal_F : Go.Sh.Fn := ⟨18, bodyOf Try.f18, 57⟩
def podestaref04_Equal_k0 : List Kd := [.read, .read, .pure, .pure, .pure, .read, .pure, .read, .pure, .pure, .pure, .pure, .read, .pure, .read, .pure, .pure, .pure, .pure, .read, .pure, .read, .pure, .pure, .pure, .pure, .read, .pure, .read, .pure, .pure, .pure, .pure, .read, .pure, .read, .pure, .pure, .pure, .pure, .read, .pure, .read, .pure, .pure, .pure, .pure, .read, .pure, .read, .pure, .pure, .pure]
def podestaref04_Equal (a : Rule) (b : Rule) : Bool :=
  ((((((((podestaref04_Key a b) && (a.Acts == b.Acts)) && (a.Idle == b.Idle)) && (a.Hard == b.Hard)) && (a.Owner == b.Owner)) && (a.Hits == b.Hits)) && (a.Quiet == b.Quiet)) && (a.Age == b.Age))
theorem podestaref04_Equal_walk (a : Rule) (b : Rule) (r : Bool) (H : podestaref04_Equal a b = r) :
    ACalls Try.prog tab.S 18 [Rule.av a, Rule.av b] [] (.sc (.bool r)) [] := by
  have hG := tab_ok
  have hm := mixed
  refine ACalls.of_AR (G := tab) podestaref04_Equal_F (fn := Try.f18) Try.func18 (by kernel_rfl) (by kernel_rfl) (by kernel_rfl) (Nat.le_of_ble_eq_true (by kernel_rfl)) ?_
  intro c0 hc0
  replace hc0 : c0.m.length = 0 := hc0
  rw [podestaref04_Equal] at H
  refine AR.seg hG hm 3 [2, 3] (k' := [.code [1, 0], .code [1, 1]]) (t' := [(2, .ptr 0 0 none), (3, .ptr 1 0 none)]) (h' := [.box 40 (Rule.ch a), .box 40 (Rule.ch b)]) (by kernel_rfl) ?_
  refine AR.reg hm podestaref04_Equal_k0 (by kernel_rfl) ?_
  refine DK.seg hG 2 [2, 3, 5, 6] (t' := [(2, .ptr 0 0 none), (3, .ptr 1 0 none), (5, Rule.av a), (6, Rule.av b)]) (h' := [.box 40 (Rule.ch a), .box 40 (Rule.ch b)]) (by kernel_rfl) rfl ?_
  refine DK.op' [2, 3, 7] (t' := [(2, .ptr 0 0 none), (3, .ptr 1 0 none), (7, .sc (.bool (podestaref04_Key a b)))]) (h' := [.box 40 (Rule.ch a), .box 40 (Rule.ch b)]) (LSpec.callP' (podestaref04_Key_calls a b) (by kernel_rfl)) (by kernel_rfl) rfl (by kernel_rfl) rfl ?_
  refine DK.seg hG 1 [2, 3, 8] (t' := [(2, .ptr 0 0 none), (3, .ptr 1 0 none), (8, .sc (.bool (podestaref04_Key a b)))]) (h' := [.box 40 (Rule.ch a), .box 40 (Rule.ch b)]) (by kernel_rfl) rfl ?_
  refine DK.mux 8 (podestaref04_Key a b) (j := 10) (h' := [.box 40 (Rule.ch a), .box 40 (Rule.ch b)]) (by kernel_rfl) (fun z => [(2, .ptr 0 0 none), (3, .ptr 1 0 none), (14, .sc (.bool (z && (a.Acts == b.Acts))))]) ?J1 (fun hb J => ?ht1) (fun hb J => ?hf1)
  case ht1 =>
    refine DK.seg hG 4 [2, 3, 8, 10, 12] (t' := [(2, .ptr 0 0 none), (3, .ptr 1 0 none), (8, .sc (.bool true)), (10, .sl 48 (List.map Act.av a.Acts) false), (12, .sl 48 (List.map Act.av b.Acts) false)]) (h' := [.box 40 (Rule.ch a), .box 40 (Rule.ch b)]) (by kernel_rfl) rfl ?_
    refine DK.op' [2, 3, 8, 13] (t' := [(2, .ptr 0 0 none), (3, .ptr 1 0 none), (8, .sc (.bool true)), (13, .sc (.bool (a.Acts == b.Acts)))]) (h' := [.box 40 (Rule.ch a), .box 40 (Rule.ch b)]) (LSpec.callP' (podestaref04_SameActs_ok a.Acts b.Acts false false) (by kernel_rfl)) (by kernel_rfl) rfl (by kernel_rfl) rfl ?_
    exact DK.seg hG 1 [2, 3, 14] (by kernel_rfl) rfl J
  case hf1 =>
    exact DK.seg hG 6 [2, 3, 14] (by kernel_rfl) rfl J
  refine DK.seg hG 1 [2, 3, 15] (t' := [(2, .ptr 0 0 none), (3, .ptr 1 0 none), (15, .sc (.bool ((podestaref04_Key a b) && (a.Acts == b.Acts))))]) (h' := [.box 40 (Rule.ch a), .box 40 (Rule.ch b)]) (by kernel_rfl) rfl ?_
  refine DK.mux 15 ((podestaref04_Key a b) && (a.Acts == b.Acts)) (j := 17) (h' := [.box 40 (Rule.ch a), .box 40 (Rule.ch b)]) (by kernel_rfl) (fun z => [(2, .ptr 0 0 none), (3, .ptr 1 0 none), (21, .sc (.bool (z && (a.Idle == b.Idle))))]) ?J2 (fun hb J => ?ht2) (fun hb J => ?hf2)
  case ht2 =>
    exact DK.seg hG 6 [2, 3, 21] (by kernel_rfl) rfl J
  case hf2 =>
    exact DK.seg hG 6 [2, 3, 21] (by kernel_rfl) rfl J
  refine DK.seg hG 1 [2, 3, 22] (t' := [(2, .ptr 0 0 none), (3, .ptr 1 0 none), (22, .sc (.bool (((podestaref04_Key a b) && (a.Acts == b.Acts)) && (a.Idle == b.Idle))))]) (h' := [.box 40 (Rule.ch a), .box 40 (Rule.ch b)]) (by kernel_rfl) rfl ?_
  refine DK.mux 22 (((podestaref04_Key a b) && (a.Acts == b.Acts)) && (a.Idle == b.Idle)) (j := 24) (h' := [.box 40 (Rule.ch a), .box 40 (Rule.ch b)]) (by kernel_rfl) (fun z => [(2, .ptr 0 0 none), (3, .ptr 1 0 none), (28, .sc (.bool (z && (a.Hard == b.Hard))))]) ?J3 (fun hb J => ?ht3) (fun hb J => ?hf3)
  case ht3 =>
    exact DK.seg hG 6 [2, 3, 28] (by kernel_rfl) rfl J
  case hf3 =>
    exact DK.seg hG 6 [2, 3, 28] (by kernel_rfl) rfl J
  refine DK.seg hG 1 [2, 3, 29] (t' := [(2, .ptr 0 0 none), (3, .ptr 1 0 none), (29, .sc (.bool ((((podestaref04_Key a b) && (a.Acts == b.Acts)) && (a.Idle == b.Idle)) && (a.Hard == b.Hard))))]) (h' := [.box 40 (Rule.ch a), .box 40 (Rule.ch b)]) (by kernel_rfl) rfl ?_
  refine DK.mux 29 ((((podestaref04_Key a b) && (a.Acts == b.Acts)) && (a.Idle == b.Idle)) && (a.Hard == b.Hard)) (j := 31) (h' := [.box 40 (Rule.ch a), .box 40 (Rule.ch b)]) (by kernel_rfl) (fun z => [(2, .ptr 0 0 none), (3, .ptr 1 0 none), (35, .sc (.bool (z && (a.Owner == b.Owner))))]) ?J4 (fun hb J => ?ht4) (fun hb J => ?hf4)
  case ht4 =>
    exact DK.seg hG 6 [2, 3, 35] (by kernel_rfl) rfl J
  case hf4 =>
    exact DK.seg hG 6 [2, 3, 35] (by kernel_rfl) rfl J
  refine DK.seg hG 1 [2, 3, 36] (t' := [(2, .ptr 0 0 none), (3, .ptr 1 0 none), (36, .sc (.bool (((((podestaref04_Key a b) && (a.Acts == b.Acts)) && (a.Idle == b.Idle)) && (a.Hard == b.Hard)) && (a.Owner == b.Owner))))]) (h' := [.box 40 (Rule.ch a), .box 40 (Rule.ch b)]) (by kernel_rfl) rfl ?_
  refine DK.mux 36 (((((podestaref04_Key a b) && (a.Acts == b.Acts)) && (a.Idle == b.Idle)) && (a.Hard == b.Hard)) && (a.Owner == b.Owner)) (j := 38) (h' := [.box 40 (Rule.ch a), .box 40 (Rule.ch b)]) (by kernel_rfl) (fun z => [(2, .ptr 0 0 none), (3, .ptr 1 0 none), (42, .sc (.bool (z && (a.Hits == b.Hits))))]) ?J5 (fun hb J => ?ht5) (fun hb J => ?hf5)
  case ht5 =>
    exact DK.seg hG 6 [2, 3, 42] (by kernel_rfl) rfl J
  case hf5 =>
    exact DK.seg hG 6 [2, 3, 42] (by kernel_rfl) rfl J
  refine DK.seg hG 1 [2, 3, 43] (t' := [(2, .ptr 0 0 none), (3, .ptr 1 0 none), (43, .sc (.bool ((((((podestaref04_Key a b) && (a.Acts == b.Acts)) && (a.Idle == b.Idle)) && (a.Hard == b.Hard)) && (a.Owner == b.Owner)) && (a.Hits == b.Hits))))]) (h' := [.box 40 (Rule.ch a), .box 40 (Rule.ch b)]) (by kernel_rfl) rfl ?_
  refine DK.mux 43 ((((((podestaref04_Key a b) && (a.Acts == b.Acts)) && (a.Idle == b.Idle)) && (a.Hard == b.Hard)) && (a.Owner == b.Owner)) && (a.Hits == b.Hits)) (j := 45) (h' := [.box 40 (Rule.ch a), .box 40 (Rule.ch b)]) (by kernel_rfl) (fun z => [(2, .ptr 0 0 none), (3, .ptr 1 0 none), (49, .sc (.bool (z && (a.Quiet == b.Quiet))))]) ?J6 (fun hb J => ?ht6) (fun hb J => ?hf6)
  case ht6 =>
    exact DK.seg hG 6 [2, 3, 49] (by kernel_rfl) rfl J
  case hf6 =>
    exact DK.seg hG 6 [2, 3, 49] (by kernel_rfl) rfl J
  refine DK.seg hG 1 [2, 3, 50] (t' := [(2, .ptr 0 0 none), (3, .ptr 1 0 none), (50, .sc (.bool (((((((podestaref04_Key a b) && (a.Acts == b.Acts)) && (a.Idle == b.Idle)) && (a.Hard == b.Hard)) && (a.Owner == b.Owner)) && (a.Hits == b.Hits)) && (a.Quiet == b.Quiet))))]) (h' := [.box 40 (Rule.ch a), .box 40 (Rule.ch b)]) (by kernel_rfl) rfl ?_
  refine DK.mux 50 (((((((podestaref04_Key a b) && (a.Acts == b.Acts)) && (a.Idle == b.Idle)) && (a.Hard == b.Hard)) && (a.Owner == b.Owner)) && (a.Hits == b.Hits)) && (a.Quiet == b.Quiet)) (j := 52) (h' := [.box 40 (Rule.ch a), .box 40 (Rule.ch b)]) (by kernel_rfl) (fun z => [(56, .sc (.bool (z && (a.Age == b.Age))))]) ?J7 (fun hb J => ?ht7) (fun hb J => ?hf7)
  case ht7 =>
    exact DK.seg hG 6 [56] (by kernel_rfl) rfl J
  case hf7 =>
    exact DK.seg hG 6 [56] (by kernel_rfl) rfl J
  refine DK.seg hG 1 [4] (t' := [(4, .sc (.bool ((((((((podestaref04_Key a b) && (a.Acts == b.Acts)) && (a.Idle == b.Idle)) && (a.Hard == b.Hard)) && (a.Owner == b.Owner)) && (a.Hits == b.Hits)) && (a.Quiet == b.Quiet)) && (a.Age == b.Age))))]) (h' := [.box 40 (Rule.ch a), .box 40 (Rule.ch b)]) (by kernel_rfl) rfl ?_
  refine DK.done (by kernel_rfl) (by kernel_rfl) ?_
  subst H
  exact AR.ret0 (fn := Try.f18) hG Try.func18 (by kernel_rfl) hc0 (r0 := .sc (.bool ((((((((podestaref04_Key a b) && (a.Acts == b.Acts)) && (a.Idle == b.Idle)) && (a.Hard == b.Hard)) && (a.Owner == b.Owner)) && (a.Hits == b.Hits)) && (a.Quiet == b.Quiet)) && (a.Age == b.Age)))) (by kernel_rfl) (WkV.refl _)
theorem podestaref04_Equal_calls (a : Rule) (b : Rule) : ACalls Try.prog tab.S 18 [Rule.av a, Rule.av b] [] (.sc (.bool (podestaref04_Equal a b))) [] := podestaref04_Equal_walk a b _ rfl

/-! ### podestaref04.Same: function 14 -/
noncomputable def podestaref04_Same_F : Go.Sh.Fn := ⟨14, bodyOf Try.f14, 27⟩
def podestaref04_Same_k0 : List Kd := [.pure, .pure, .pure, .pure, .pure, .pure, .pure, .pure, .pure, .pure]
def podestaref04_Same_l0s (b : List Rule) : List Rule → Nat → Option (Sum (Unit) (Bool))
  | [], i =>
    some (.inl ())
  | x :: rest, i =>
    (ixO b ((i : Nat) : Int)).bind fun x1 =>
    (bif (!(podestaref04_Equal x x1)) then
      some (.inr false)
    else
      podestaref04_Same_l0s b rest (i + 1) )
theorem podestaref04_Same_l0_walk (a : List Rule) (b : List Rule) (f_a : Bool) (f_b : Bool) (r : Bool) (c0 : Ctx) (hc0 : c0.m.length = 0) (res : Sum (Unit) (Bool)) (J : ∀ w : Unit, res = .inl w → AR Try.prog tab podestaref04_Same_F c0 (Rp tab.S c0 (.sc (.bool r)) []) [.code [1, 1, 1]] [] []) (Jr : ∀ w, res = .inr w → w = r) :
    ∀ (rest : List Rule) (i : Nat) (hd : a.drop i = rest) (H : podestaref04_Same_l0s b rest i = some res), AR Try.prog tab podestaref04_Same_F c0 (Rp tab.S c0 (.sc (.bool r)) []) [.code [1, 1, 0, 1, 0, 0], .loop [1, 1, 0, 1, 0], .blk 0, .code [1, 1, 1]] [(0, .sl 40 (List.map Rule.av a) f_a), (1, .sl 40 (List.map Rule.av b) f_b), (5, .sc (.int .i64 ((i : Nat) : Int)))] [] := by
  have hG := tab_ok
  have hm := mixed
  intro rest
  induction rest with
  | nil =>
    intro i hd  H
    rw [podestaref04_Same_l0s] at H
    refine AR.facts 0 rfl fun hf => ?_
    have hlen : a.length ≤ 9223372036854775807 := by have hq := len_ok hf.2.1; rw [List.length_map] at hq; exact hq
    have hge : a.length ≤ i := List.drop_eq_nil_iff.1 hd
    have hc : (decide (((i : Nat) : Int) < (((List.map Rule.av a).length : Nat) : Int))) = false := by rw [List.length_map]; exact decide_eq_false (by omega)
    refine AR.seg hG hm 3 [0, 1, 5, 14] (k' := [.code [1, 1, 0, 1, 0, 0, 0, 1], .code [1, 1, 0, 1, 0, 0, 1], .loop [1, 1, 0, 1, 0], .blk 0, .code [1, 1, 1]]) (t' := [(0, .sl 40 (List.map Rule.av a) f_a), (1, .sl 40 (List.map Rule.av b) f_b), (5, .sc (.int .i64 ((i : Nat) : Int))), (14, .sc (.bool (decide (((i : Nat) : Int) < (((List.map Rule.av a).length : Nat) : Int)))))]) (h' := []) (by kernel_rfl) ?_
    refine AR.cond (.tmp 14) (decide (((i : Nat) : Int) < (((List.map Rule.av a).length : Nat) : Int))) (by kernel_rfl) (by kernel_rfl) (fun hb => ?ht8) (fun hb => ?hf8)
    case ht8 => exact absurd (hb.symm.trans hc) (by decide)
    case hf8 =>
      refine AR.seg hG hm 1 [] (k' := [.code [1, 1, 1]]) (t' := []) (h' := []) (by kernel_rfl) ?_
      refine AR.keep [] (t' := []) (by kernel_rfl) ?_
      exact J () (Option.some.inj H).symm
  | cons x rest ih =>
    intro i hd  H
    rw [podestaref04_Same_l0s] at H
    refine AR.facts 0 rfl fun hf => ?_
    have hlen : a.length ≤ 9223372036854775807 := by have hq := len_ok hf.2.1; rw [List.length_map] at hq; exact hq
    obtain ⟨hlt, hv_i, hd2⟩ := drop_cons hd
    have hc : (decide (((i : Nat) : Int) < (((List.map Rule.av a).length : Nat) : Int))) = true := by rw [List.length_map]; exact decide_eq_true (by omega)
    have hw : IntKind.i64.wrap (((i : Nat) : Int) + 1) = ((i + 1 : Nat) : Int) := wrapI_succ (by omega)
    refine AR.seg hG hm 3 [0, 1, 5, 14] (k' := [.code [1, 1, 0, 1, 0, 0, 0, 1], .code [1, 1, 0, 1, 0, 0, 1], .loop [1, 1, 0, 1, 0], .blk 0, .code [1, 1, 1]]) (t' := [(0, .sl 40 (List.map Rule.av a) f_a), (1, .sl 40 (List.map Rule.av b) f_b), (5, .sc (.int .i64 ((i : Nat) : Int))), (14, .sc (.bool (decide (((i : Nat) : Int) < (((List.map Rule.av a).length : Nat) : Int)))))]) (h' := []) (by kernel_rfl) ?_
    refine AR.cond (.tmp 14) (decide (((i : Nat) : Int) < (((List.map Rule.av a).length : Nat) : Int))) (by kernel_rfl) (by kernel_rfl) (fun hb => ?ht9) (fun hb => ?hf9)
    case ht9 =>
      refine AR.seg hG hm 4 [0, 1, 5] (k' := [.code [1, 1, 0, 1, 0, 0, 1, 0, 0, 0], .code [1, 1, 0, 1, 0, 0, 1, 0, 0, 1], .blk 1, .code [1, 1, 0, 1, 0, 0, 1, 1], .loop [1, 1, 0, 1, 0], .blk 0, .code [1, 1, 1]]) (t' := [(0, .sl 40 (List.map Rule.av a) f_a), (1, .sl 40 (List.map Rule.av b) f_b), (5, .sc (.int .i64 ((i : Nat) : Int)))]) (h' := []) (by kernel_rfl) ?_
      refine AR.reg hm podestaref04_Same_k0 (by kernel_rfl) ?_
      refine DK.seg hG 2 [0, 1, 5, 17, 18] (t' := [(0, .sl 40 (List.map Rule.av a) f_a), (1, .sl 40 (List.map Rule.av b) f_b), (5, .sc (.int .i64 ((i : Nat) : Int))), (17, .sl 40 (List.map Rule.av a) f_a), (18, .sc (.int .i64 ((i : Nat) : Int)))]) (h' := []) (by kernel_rfl) rfl ?_
      refine DK.op' [0, 1, 5, 19] (t' := [(0, .sl 40 (List.map Rule.av a) f_a), (1, .sl 40 (List.map Rule.av b) f_b), (5, .sc (.int .i64 ((i : Nat) : Int))), (19, .ep [.arr .u64 12 x.Match.Value, .arr .u64 12 x.Match.Care, .sc (.int .i64 x.Prio), .sl 48 (List.map Act.av x.Acts) false, .sc (.int .i64 x.Idle), .sc (.int .i64 x.Hard), .sc (.int .i64 x.Owner), .sc (.int .i64 x.Hits), .sc (.int .i64 x.Quiet), .sc (.int .i64 x.Age)] 0 none)]) (h' := []) (LSpec.index' (r := Rule.av x) (fs := [.arr .u64 12 x.Match.Value, .arr .u64 12 x.Match.Care, .sc (.int .i64 x.Prio), .sl 48 (List.map Act.av x.Acts) false, .sc (.int .i64 x.Idle), .sc (.int .i64 x.Hard), .sc (.int .i64 x.Owner), .sc (.int .i64 x.Hits), .sc (.int .i64 x.Quiet), .sc (.int .i64 x.Age)]) hG (rows := List.map Rule.av a) (j := ((i : Nat) : Int)) (by kernel_rfl) (ixO_map hv_i _) (by kernel_rfl)) (by kernel_rfl) rfl (by kernel_rfl) rfl ?_
      refine DK.seg hG 3 [0, 1, 5, 20, 21, 22] (t' := [(0, .sl 40 (List.map Rule.av a) f_a), (1, .sl 40 (List.map Rule.av b) f_b), (5, .sc (.int .i64 ((i : Nat) : Int))), (20, Rule.av x), (21, .sl 40 (List.map Rule.av b) f_b), (22, .sc (.int .i64 ((i : Nat) : Int)))]) (h' := []) (by kernel_rfl) rfl ?_
      obtain ⟨x1, hv, H⟩ := Option.bind_eq_some_iff.1 H
      refine DK.op' [0, 1, 5, 20, 23] (t' := [(0, .sl 40 (List.map Rule.av a) f_a), (1, .sl 40 (List.map Rule.av b) f_b), (5, .sc (.int .i64 ((i : Nat) : Int))), (20, Rule.av x), (23, .ep [.arr .u64 12 x1.Match.Value, .arr .u64 12 x1.Match.Care, .sc (.int .i64 x1.Prio), .sl 48 (List.map Act.av x1.Acts) false, .sc (.int .i64 x1.Idle), .sc (.int .i64 x1.Hard), .sc (.int .i64 x1.Owner), .sc (.int .i64 x1.Hits), .sc (.int .i64 x1.Quiet), .sc (.int .i64 x1.Age)] 0 none)]) (h' := []) (LSpec.index' (r := Rule.av x1) (fs := [.arr .u64 12 x1.Match.Value, .arr .u64 12 x1.Match.Care, .sc (.int .i64 x1.Prio), .sl 48 (List.map Act.av x1.Acts) false, .sc (.int .i64 x1.Idle), .sc (.int .i64 x1.Hard), .sc (.int .i64 x1.Owner), .sc (.int .i64 x1.Hits), .sc (.int .i64 x1.Quiet), .sc (.int .i64 x1.Age)]) hG (rows := List.map Rule.av b) (j := ((i : Nat) : Int)) (by kernel_rfl) (ixO_map hv _) (by kernel_rfl)) (by kernel_rfl) rfl (by kernel_rfl) rfl ?_
      refine DK.seg hG 1 [0, 1, 5, 20, 24] (t' := [(0, .sl 40 (List.map Rule.av a) f_a), (1, .sl 40 (List.map Rule.av b) f_b), (5, .sc (.int .i64 ((i : Nat) : Int))), (20, Rule.av x), (24, Rule.av x1)]) (h' := []) (by kernel_rfl) rfl ?_
      refine DK.op' [0, 1, 5, 25] (t' := [(0, .sl 40 (List.map Rule.av a) f_a), (1, .sl 40 (List.map Rule.av b) f_b), (5, .sc (.int .i64 ((i : Nat) : Int))), (25, .sc (.bool (podestaref04_Equal x x1)))]) (h' := []) (LSpec.callP' (podestaref04_Equal_calls x x1) (by kernel_rfl)) (by kernel_rfl) rfl (by kernel_rfl) rfl ?_
      refine DK.seg hG 1 [0, 1, 5, 26] (t' := [(0, .sl 40 (List.map Rule.av a) f_a), (1, .sl 40 (List.map Rule.av b) f_b), (5, .sc (.int .i64 ((i : Nat) : Int))), (26, .sc (.bool (!(podestaref04_Equal x x1))))]) (h' := []) (by kernel_rfl) rfl ?_
      refine DK.done (by kernel_rfl) (by kernel_rfl) ?_
      refine AR.cond (.tmp 26) (!(podestaref04_Equal x x1)) (by kernel_rfl) (by kernel_rfl) (fun hb => ?ht10) (fun hb => ?hf10)
      case ht10 =>
        replace H := cond_t hb H
        refine AR.seg hG hm 2 [4] (k' := [.code [1, 1, 0, 1, 0, 0, 1, 0, 0, 1, 0, 1], .blk 1, .code [1, 1, 0, 1, 0, 0, 1, 1], .loop [1, 1, 0, 1, 0], .blk 0, .code [1, 1, 1]]) (t' := [(4, .sc (.bool false))]) (h' := []) (by kernel_rfl) ?_
        obtain rfl := Option.some.inj H
        obtain rfl := Jr _ rfl
        exact AR.ret0 (fn := Try.f14) hG Try.func14 (by kernel_rfl) hc0 (r0 := .sc (.bool false)) (by kernel_rfl) (WkV.refl _)
      case hf10 =>
        replace H := cond_f hb H
        refine AR.seg hG hm 3 [0, 1, 5] (k' := [.loop [1, 1, 0, 1, 0], .blk 0, .code [1, 1, 1]]) (t' := [(0, .sl 40 (List.map Rule.av a) f_a), (1, .sl 40 (List.map Rule.av b) f_b), (5, .sc (.int .i64 (IntKind.i64.wrap (((i : Nat) : Int) + 1))))]) (h' := []) (by kernel_rfl) ?_
        refine AR.keep [0, 1, 5] (t' := [(0, .sl 40 (List.map Rule.av a) f_a), (1, .sl 40 (List.map Rule.av b) f_b), (5, .sc (.int .i64 (IntKind.i64.wrap (((i : Nat) : Int) + 1))))]) (by kernel_rfl) ?_
        refine AR.loop_round ?_
        rw [hw]
        exact ih (i + 1) hd2 H
    case hf9 => exact absurd (hc.symm.trans hb) (by decide)

def podestaref04_Same_raw (a : List Rule) (b : List Rule) : Option (Bool) :=
  (bif ((((List.map Rule.av a).length : Nat) : Int) != (((List.map Rule.av b).length : Nat) : Int)) then
    some false
  else
    loopO (podestaref04_Same_l0s b a 0) fun v =>
    some true)
theorem podestaref04_Same_walk (a : List Rule) (b : List Rule) (f_a : Bool) (f_b : Bool) (r : Bool) (H : podestaref04_Same_raw a b = some r) :
    ACalls Try.prog tab.S 14 [.sl 40 (List.map Rule.av a) f_a, .sl 40 (List.map Rule.av b) f_b] [] (.sc (.bool r)) [] := by
  have hG := tab_ok
  have hm := mixed
  refine ACalls.of_AR (G := tab) podestaref04_Same_F (fn := Try.f14) Try.func14 (by kernel_rfl) (by kernel_rfl) (by kernel_rfl) (Nat.le_of_ble_eq_true (by kernel_rfl)) ?_
  intro c0 hc0
  replace hc0 : c0.m.length = 0 := hc0
  rw [podestaref04_Same_raw] at H
  refine AR.seg hG hm 5 [0, 1, 10] (k' := [.code [1, 0, 1], .code [1, 1]]) (t' := [(0, .sl 40 (List.map Rule.av a) f_a), (1, .sl 40 (List.map Rule.av b) f_b), (10, .sc (.bool ((((List.map Rule.av a).length : Nat) : Int) != (((List.map Rule.av b).length : Nat) : Int))))]) (h' := []) (by kernel_rfl) ?_
  refine AR.cond (.tmp 10) ((((List.map Rule.av a).length : Nat) : Int) != (((List.map Rule.av b).length : Nat) : Int)) (by kernel_rfl) (by kernel_rfl) (fun hb => ?ht1) (fun hb => ?hf1)
  case ht1 =>
    replace H := cond_t hb H
    refine AR.seg hG hm 2 [4] (k' := [.code [1, 0, 1, 0, 1], .code [1, 1]]) (t' := [(4, .sc (.bool false))]) (h' := []) (by kernel_rfl) ?_
    obtain rfl := Option.some.inj H
    exact AR.ret0 (fn := Try.f14) hG Try.func14 (by kernel_rfl) hc0 (r0 := .sc (.bool false)) (by kernel_rfl) (WkV.refl _)
  case hf1 =>
    replace H := cond_f hb H
    refine AR.seg hG hm 5 [0, 1, 5] (k' := [.code [1, 1, 0, 1, 0], .blk 0, .code [1, 1, 1]]) (t' := [(0, .sl 40 (List.map Rule.av a) f_a), (1, .sl 40 (List.map Rule.av b) f_b), (5, .sc (.int .i64 0))]) (h' := []) (by kernel_rfl) ?_
    rcases loopO_some H with ⟨v, hv, H⟩ | hv
    case inr =>
      refine AR.into (by kernel_rfl) ?_
      exact podestaref04_Same_l0_walk a b f_a f_b _ c0 hc0 (.inr _) (fun _ e => by cases e) (fun _ e => (Sum.inr.inj e).symm) a 0 rfl hv
    refine AR.into (by kernel_rfl) ?_
    refine podestaref04_Same_l0_walk a b f_a f_b r c0 hc0 (.inl v) (fun w e => ?_) (fun _ e => by cases e) a 0 rfl hv
    have e := Sum.inl.inj e
    subst e
    refine AR.seg hG hm 2 [4] (k' := [.code [1, 1, 1, 1]]) (t' := [(4, .sc (.bool true))]) (h' := []) (by kernel_rfl) ?_
    obtain rfl := Option.some.inj H
    exact AR.ret0 (fn := Try.f14) hG Try.func14 (by kernel_rfl) hc0 (r0 := .sc (.bool true)) (by kernel_rfl) (WkV.refl _)

theorem podestaref04_Same_ok (a b : List Rule) (f_a f_b : Bool) : ACalls Try.prog tab.S 14 [.sl 40 (List.map Rule.av a) f_a, .sl 40 (List.map Rule.av b) f_b] [] (.sc (.bool (zipAll podestaref04_Equal a b))) [] := by
  refine podestaref04_Same_walk a b f_a f_b _ ?_
  rw [podestaref04_Same_raw, len_bne]
  by_cases h : a.length = b.length
  · simp only [h, decide_true, Bool.not_true, cond_false]
    rw [cmp_loop (v := false) (podestaref04_Same_l0s b) b podestaref04_Equal (fun _ => rfl) (fun x r i => by rw [podestaref04_Same_l0s]) a 0 (by omega), List.drop_zero]
    cases zipAll podestaref04_Equal a b <;> rfl
  · rw [zipAll_ne _ h]
    simp only [h, decide_false, Bool.not_false, cond_true]
theorem ref_Equal_eq (a b : Rule) : podestaref04_Equal a b = (a == b) := by
  obtain ⟨⟨v, c⟩, p, ac, i1, h1, o1, h2, q1, g1⟩ := a
  obtain ⟨⟨v', c'⟩, p', ac', i1', h1', o1', h2', q1', g1'⟩ := b
  rw [podestaref04_Equal, podestaref04_Key, Bool.eq_iff_iff]
  simp only [Bool.and_eq_true, beq_iff_eq, Rule.mk.injEq, Cube.mk.injEq]
  constructor
  · rintro ⟨⟨⟨⟨⟨⟨⟨⟨⟨a2, a3⟩, a4⟩, a1⟩, a5⟩, a6⟩, a7⟩, a8⟩, a9⟩, a10⟩
    exact ⟨⟨a2, a3⟩, a4, a1, a5, a6, a7, a8, a9, a10⟩
  · rintro ⟨⟨a2, a3⟩, a4, a1, a5, a6, a7, a8, a9, a10⟩
    exact ⟨⟨⟨⟨⟨⟨⟨⟨⟨a2, a3⟩, a4⟩, a1⟩, a5⟩, a6⟩, a7⟩, a8⟩, a9⟩, a10⟩
theorem ref_Same_eq (a b : List Rule) : zipAll podestaref04_Equal a b = (a == b) := by
  rw [← zipAll_beq]
  exact congrArg (fun f => zipAll f a b) (funext fun x => funext fun y => ref_Equal_eq x y)

/-! ### mods.Same: function 22 -/
noncomputable def mods_Same_F : Go.Sh.Fn := ⟨22, bodyOf Try.f22, 59⟩
def mods_Same_k0 : List Kd := [.pure, .read, .pure, .read, .pure, .pure, .pure, .read, .pure, .read, .pure, .pure, .pure, .pure, .read, .pure, .read, .pure, .pure, .pure, .pure, .read, .pure, .read, .pure, .pure, .pure, .pure, .read, .pure, .read, .pure, .pure, .pure, .pure, .read, .pure, .read, .pure, .pure, .pure, .pure, .read, .pure, .read, .pure, .pure, .pure, .pure, .read, .pure, .read, .pure, .pure, .pure]
def mods_Same (a : Mod) (b : Mod) : Bool :=
  ((((((((a.Kind == b.Kind) && ((a.Match.Value == b.Match.Value) && (a.Match.Care == b.Match.Care))) && (a.Prio == b.Prio)) && (act_Same a.Acts b.Acts)) && (a.Idle == b.Idle)) && (a.Hard == b.Hard)) && (a.Owner == b.Owner)) && (a.Check == b.Check))
theorem mods_Same_walk (a : Mod) (b : Mod) (r : Bool) (H : mods_Same a b = r) :
    ACalls Try.prog tab.S 22 [Mod.av a, Mod.av b] [] (.sc (.bool r)) [] := by
  have hG := tab_ok
  have hm := mixed
  refine ACalls.of_AR (G := tab) mods_Same_F (fn := Try.f22) Try.func22 (by kernel_rfl) (by kernel_rfl) (by kernel_rfl) (Nat.le_of_ble_eq_true (by kernel_rfl)) ?_
  intro c0 hc0
  replace hc0 : c0.m.length = 0 := hc0
  rw [mods_Same] at H
  refine AR.seg hG hm 3 [2, 3] (k' := [.code [1, 0], .code [1, 1]]) (t' := [(2, .ptr 0 0 none), (3, .ptr 1 0 none)]) (h' := [.box 30 (Mod.ch a), .box 30 (Mod.ch b)]) (by kernel_rfl) ?_
  refine AR.reg hm mods_Same_k0 (by kernel_rfl) ?_
  refine DK.seg hG 6 [2, 3, 10] (t' := [(2, .ptr 0 0 none), (3, .ptr 1 0 none), (10, .sc (.bool (a.Kind == b.Kind)))]) (h' := [.box 30 (Mod.ch a), .box 30 (Mod.ch b)]) (by kernel_rfl) rfl ?_
  refine DK.mux 10 (a.Kind == b.Kind) (j := 12) (h' := [.box 30 (Mod.ch a), .box 30 (Mod.ch b)]) (by kernel_rfl) (fun z => [(2, .ptr 0 0 none), (3, .ptr 1 0 none), (16, .sc (.bool (z && ((a.Match.Value == b.Match.Value) && (a.Match.Care == b.Match.Care)))))]) ?J1 (fun hb J => ?ht1) (fun hb J => ?hf1)
  case ht1 =>
    refine DK.seg hG 4 [2, 3, 10, 12, 14] (t' := [(2, .ptr 0 0 none), (3, .ptr 1 0 none), (10, .sc (.bool true)), (12, Cube.av a.Match), (14, Cube.av b.Match)]) (h' := [.box 30 (Mod.ch a), .box 30 (Mod.ch b)]) (by kernel_rfl) rfl ?_
    refine DK.op' [2, 3, 10, 15] (t' := [(2, .ptr 0 0 none), (3, .ptr 1 0 none), (10, .sc (.bool true)), (15, .sc (.bool ((a.Match.Value == b.Match.Value) && (a.Match.Care == b.Match.Care))))]) (h' := [.box 30 (Mod.ch a), .box 30 (Mod.ch b)]) (LSpec.eq' 9 (r := ((a.Match.Value == b.Match.Value) && (a.Match.Care == b.Match.Care))) (by kernel_rfl)) (by kernel_rfl) rfl (by kernel_rfl) rfl ?_
    exact DK.seg hG 1 [2, 3, 16] (by kernel_rfl) rfl J
  case hf1 =>
    exact DK.seg hG 6 [2, 3, 16] (by kernel_rfl) rfl J
  refine DK.seg hG 1 [2, 3, 17] (t' := [(2, .ptr 0 0 none), (3, .ptr 1 0 none), (17, .sc (.bool ((a.Kind == b.Kind) && ((a.Match.Value == b.Match.Value) && (a.Match.Care == b.Match.Care)))))]) (h' := [.box 30 (Mod.ch a), .box 30 (Mod.ch b)]) (by kernel_rfl) rfl ?_
  refine DK.mux 17 ((a.Kind == b.Kind) && ((a.Match.Value == b.Match.Value) && (a.Match.Care == b.Match.Care))) (j := 19) (h' := [.box 30 (Mod.ch a), .box 30 (Mod.ch b)]) (by kernel_rfl) (fun z => [(2, .ptr 0 0 none), (3, .ptr 1 0 none), (23, .sc (.bool (z && (a.Prio == b.Prio))))]) ?J2 (fun hb J => ?ht2) (fun hb J => ?hf2)
  case ht2 =>
    exact DK.seg hG 6 [2, 3, 23] (by kernel_rfl) rfl J
  case hf2 =>
    exact DK.seg hG 6 [2, 3, 23] (by kernel_rfl) rfl J
  refine DK.seg hG 1 [2, 3, 24] (t' := [(2, .ptr 0 0 none), (3, .ptr 1 0 none), (24, .sc (.bool (((a.Kind == b.Kind) && ((a.Match.Value == b.Match.Value) && (a.Match.Care == b.Match.Care))) && (a.Prio == b.Prio))))]) (h' := [.box 30 (Mod.ch a), .box 30 (Mod.ch b)]) (by kernel_rfl) rfl ?_
  refine DK.mux 24 (((a.Kind == b.Kind) && ((a.Match.Value == b.Match.Value) && (a.Match.Care == b.Match.Care))) && (a.Prio == b.Prio)) (j := 26) (h' := [.box 30 (Mod.ch a), .box 30 (Mod.ch b)]) (by kernel_rfl) (fun z => [(2, .ptr 0 0 none), (3, .ptr 1 0 none), (30, .sc (.bool (z && (act_Same a.Acts b.Acts))))]) ?J3 (fun hb J => ?ht3) (fun hb J => ?hf3)
  case ht3 =>
    refine DK.seg hG 4 [2, 3, 24, 26, 28] (t' := [(2, .ptr 0 0 none), (3, .ptr 1 0 none), (24, .sc (.bool true)), (26, .sl 48 (List.map Act.av a.Acts) false), (28, .sl 48 (List.map Act.av b.Acts) false)]) (h' := [.box 30 (Mod.ch a), .box 30 (Mod.ch b)]) (by kernel_rfl) rfl ?_
    refine DK.op' [2, 3, 24, 29] (t' := [(2, .ptr 0 0 none), (3, .ptr 1 0 none), (24, .sc (.bool true)), (29, .sc (.bool (act_Same a.Acts b.Acts)))]) (h' := [.box 30 (Mod.ch a), .box 30 (Mod.ch b)]) (LSpec.callP' (act_Same_calls a.Acts b.Acts false false) (by kernel_rfl)) (by kernel_rfl) rfl (by kernel_rfl) rfl ?_
    exact DK.seg hG 1 [2, 3, 30] (by kernel_rfl) rfl J
  case hf3 =>
    exact DK.seg hG 6 [2, 3, 30] (by kernel_rfl) rfl J
  refine DK.seg hG 1 [2, 3, 31] (t' := [(2, .ptr 0 0 none), (3, .ptr 1 0 none), (31, .sc (.bool ((((a.Kind == b.Kind) && ((a.Match.Value == b.Match.Value) && (a.Match.Care == b.Match.Care))) && (a.Prio == b.Prio)) && (act_Same a.Acts b.Acts))))]) (h' := [.box 30 (Mod.ch a), .box 30 (Mod.ch b)]) (by kernel_rfl) rfl ?_
  refine DK.mux 31 ((((a.Kind == b.Kind) && ((a.Match.Value == b.Match.Value) && (a.Match.Care == b.Match.Care))) && (a.Prio == b.Prio)) && (act_Same a.Acts b.Acts)) (j := 33) (h' := [.box 30 (Mod.ch a), .box 30 (Mod.ch b)]) (by kernel_rfl) (fun z => [(2, .ptr 0 0 none), (3, .ptr 1 0 none), (37, .sc (.bool (z && (a.Idle == b.Idle))))]) ?J4 (fun hb J => ?ht4) (fun hb J => ?hf4)
  case ht4 =>
    exact DK.seg hG 6 [2, 3, 37] (by kernel_rfl) rfl J
  case hf4 =>
    exact DK.seg hG 6 [2, 3, 37] (by kernel_rfl) rfl J
  refine DK.seg hG 1 [2, 3, 38] (t' := [(2, .ptr 0 0 none), (3, .ptr 1 0 none), (38, .sc (.bool (((((a.Kind == b.Kind) && ((a.Match.Value == b.Match.Value) && (a.Match.Care == b.Match.Care))) && (a.Prio == b.Prio)) && (act_Same a.Acts b.Acts)) && (a.Idle == b.Idle))))]) (h' := [.box 30 (Mod.ch a), .box 30 (Mod.ch b)]) (by kernel_rfl) rfl ?_
  refine DK.mux 38 (((((a.Kind == b.Kind) && ((a.Match.Value == b.Match.Value) && (a.Match.Care == b.Match.Care))) && (a.Prio == b.Prio)) && (act_Same a.Acts b.Acts)) && (a.Idle == b.Idle)) (j := 40) (h' := [.box 30 (Mod.ch a), .box 30 (Mod.ch b)]) (by kernel_rfl) (fun z => [(2, .ptr 0 0 none), (3, .ptr 1 0 none), (44, .sc (.bool (z && (a.Hard == b.Hard))))]) ?J5 (fun hb J => ?ht5) (fun hb J => ?hf5)
  case ht5 =>
    exact DK.seg hG 6 [2, 3, 44] (by kernel_rfl) rfl J
  case hf5 =>
    exact DK.seg hG 6 [2, 3, 44] (by kernel_rfl) rfl J
  refine DK.seg hG 1 [2, 3, 45] (t' := [(2, .ptr 0 0 none), (3, .ptr 1 0 none), (45, .sc (.bool ((((((a.Kind == b.Kind) && ((a.Match.Value == b.Match.Value) && (a.Match.Care == b.Match.Care))) && (a.Prio == b.Prio)) && (act_Same a.Acts b.Acts)) && (a.Idle == b.Idle)) && (a.Hard == b.Hard))))]) (h' := [.box 30 (Mod.ch a), .box 30 (Mod.ch b)]) (by kernel_rfl) rfl ?_
  refine DK.mux 45 ((((((a.Kind == b.Kind) && ((a.Match.Value == b.Match.Value) && (a.Match.Care == b.Match.Care))) && (a.Prio == b.Prio)) && (act_Same a.Acts b.Acts)) && (a.Idle == b.Idle)) && (a.Hard == b.Hard)) (j := 47) (h' := [.box 30 (Mod.ch a), .box 30 (Mod.ch b)]) (by kernel_rfl) (fun z => [(2, .ptr 0 0 none), (3, .ptr 1 0 none), (51, .sc (.bool (z && (a.Owner == b.Owner))))]) ?J6 (fun hb J => ?ht6) (fun hb J => ?hf6)
  case ht6 =>
    exact DK.seg hG 6 [2, 3, 51] (by kernel_rfl) rfl J
  case hf6 =>
    exact DK.seg hG 6 [2, 3, 51] (by kernel_rfl) rfl J
  refine DK.seg hG 1 [2, 3, 52] (t' := [(2, .ptr 0 0 none), (3, .ptr 1 0 none), (52, .sc (.bool (((((((a.Kind == b.Kind) && ((a.Match.Value == b.Match.Value) && (a.Match.Care == b.Match.Care))) && (a.Prio == b.Prio)) && (act_Same a.Acts b.Acts)) && (a.Idle == b.Idle)) && (a.Hard == b.Hard)) && (a.Owner == b.Owner))))]) (h' := [.box 30 (Mod.ch a), .box 30 (Mod.ch b)]) (by kernel_rfl) rfl ?_
  refine DK.mux 52 (((((((a.Kind == b.Kind) && ((a.Match.Value == b.Match.Value) && (a.Match.Care == b.Match.Care))) && (a.Prio == b.Prio)) && (act_Same a.Acts b.Acts)) && (a.Idle == b.Idle)) && (a.Hard == b.Hard)) && (a.Owner == b.Owner)) (j := 54) (h' := [.box 30 (Mod.ch a), .box 30 (Mod.ch b)]) (by kernel_rfl) (fun z => [(58, .sc (.bool (z && (a.Check == b.Check))))]) ?J7 (fun hb J => ?ht7) (fun hb J => ?hf7)
  case ht7 =>
    exact DK.seg hG 6 [58] (by kernel_rfl) rfl J
  case hf7 =>
    exact DK.seg hG 6 [58] (by kernel_rfl) rfl J
  refine DK.seg hG 1 [4] (t' := [(4, .sc (.bool ((((((((a.Kind == b.Kind) && ((a.Match.Value == b.Match.Value) && (a.Match.Care == b.Match.Care))) && (a.Prio == b.Prio)) && (act_Same a.Acts b.Acts)) && (a.Idle == b.Idle)) && (a.Hard == b.Hard)) && (a.Owner == b.Owner)) && (a.Check == b.Check))))]) (h' := [.box 30 (Mod.ch a), .box 30 (Mod.ch b)]) (by kernel_rfl) rfl ?_
  refine DK.done (by kernel_rfl) (by kernel_rfl) ?_
  subst H
  exact AR.ret0 (fn := Try.f22) hG Try.func22 (by kernel_rfl) hc0 (r0 := .sc (.bool ((((((((a.Kind == b.Kind) && ((a.Match.Value == b.Match.Value) && (a.Match.Care == b.Match.Care))) && (a.Prio == b.Prio)) && (act_Same a.Acts b.Acts)) && (a.Idle == b.Idle)) && (a.Hard == b.Hard)) && (a.Owner == b.Owner)) && (a.Check == b.Check)))) (by kernel_rfl) (WkV.refl _)
theorem mods_Same_calls (a : Mod) (b : Mod) : ACalls Try.prog tab.S 22 [Mod.av a, Mod.av b] [] (.sc (.bool (mods_Same a b))) [] := mods_Same_walk a b _ rfl

/-! ### podestaref04.SameMods: function 20 -/
noncomputable def podestaref04_SameMods_F : Go.Sh.Fn := ⟨20, bodyOf Try.f20, 59⟩
def podestaref04_SameMods_k0 : List Kd := [.pure, .read, .pure, .read, .pure, .pure, .pure, .read, .pure, .read, .pure, .pure, .pure, .pure, .read, .pure, .read, .pure, .pure, .pure, .pure, .read, .pure, .read, .pure, .pure, .pure, .pure, .read, .pure, .read, .pure, .pure, .pure, .pure, .read, .pure, .read, .pure, .pure, .pure, .pure, .read, .pure, .read, .pure, .pure, .pure, .pure, .read, .pure, .read, .pure, .pure, .pure]
def podestaref04_SameMods (a : Mod) (b : Mod) : Bool :=
  ((((((((a.Kind == b.Kind) && ((a.Match.Value == b.Match.Value) && (a.Match.Care == b.Match.Care))) && (a.Prio == b.Prio)) && (a.Acts == b.Acts)) && (a.Idle == b.Idle)) && (a.Hard == b.Hard)) && (a.Owner == b.Owner)) && (a.Check == b.Check))
theorem podestaref04_SameMods_walk (a : Mod) (b : Mod) (r : Bool) (H : podestaref04_SameMods a b = r) :
    ACalls Try.prog tab.S 20 [Mod.av a, Mod.av b] [] (.sc (.bool r)) [] := by
  have hG := tab_ok
  have hm := mixed
  refine ACalls.of_AR (G := tab) podestaref04_SameMods_F (fn := Try.f20) Try.func20 (by kernel_rfl) (by kernel_rfl) (by kernel_rfl) (Nat.le_of_ble_eq_true (by kernel_rfl)) ?_
  intro c0 hc0
  replace hc0 : c0.m.length = 0 := hc0
  rw [podestaref04_SameMods] at H
  refine AR.seg hG hm 3 [2, 3] (k' := [.code [1, 0], .code [1, 1]]) (t' := [(2, .ptr 0 0 none), (3, .ptr 1 0 none)]) (h' := [.box 30 (Mod.ch a), .box 30 (Mod.ch b)]) (by kernel_rfl) ?_
  refine AR.reg hm podestaref04_SameMods_k0 (by kernel_rfl) ?_
  refine DK.seg hG 6 [2, 3, 10] (t' := [(2, .ptr 0 0 none), (3, .ptr 1 0 none), (10, .sc (.bool (a.Kind == b.Kind)))]) (h' := [.box 30 (Mod.ch a), .box 30 (Mod.ch b)]) (by kernel_rfl) rfl ?_
  refine DK.mux 10 (a.Kind == b.Kind) (j := 12) (h' := [.box 30 (Mod.ch a), .box 30 (Mod.ch b)]) (by kernel_rfl) (fun z => [(2, .ptr 0 0 none), (3, .ptr 1 0 none), (16, .sc (.bool (z && ((a.Match.Value == b.Match.Value) && (a.Match.Care == b.Match.Care)))))]) ?J1 (fun hb J => ?ht1) (fun hb J => ?hf1)
  case ht1 =>
    refine DK.seg hG 4 [2, 3, 10, 12, 14] (t' := [(2, .ptr 0 0 none), (3, .ptr 1 0 none), (10, .sc (.bool true)), (12, Cube.av a.Match), (14, Cube.av b.Match)]) (h' := [.box 30 (Mod.ch a), .box 30 (Mod.ch b)]) (by kernel_rfl) rfl ?_
    refine DK.op' [2, 3, 10, 15] (t' := [(2, .ptr 0 0 none), (3, .ptr 1 0 none), (10, .sc (.bool true)), (15, .sc (.bool ((a.Match.Value == b.Match.Value) && (a.Match.Care == b.Match.Care))))]) (h' := [.box 30 (Mod.ch a), .box 30 (Mod.ch b)]) (LSpec.eq' 9 (r := ((a.Match.Value == b.Match.Value) && (a.Match.Care == b.Match.Care))) (by kernel_rfl)) (by kernel_rfl) rfl (by kernel_rfl) rfl ?_
    exact DK.seg hG 1 [2, 3, 16] (by kernel_rfl) rfl J
  case hf1 =>
    exact DK.seg hG 6 [2, 3, 16] (by kernel_rfl) rfl J
  refine DK.seg hG 1 [2, 3, 17] (t' := [(2, .ptr 0 0 none), (3, .ptr 1 0 none), (17, .sc (.bool ((a.Kind == b.Kind) && ((a.Match.Value == b.Match.Value) && (a.Match.Care == b.Match.Care)))))]) (h' := [.box 30 (Mod.ch a), .box 30 (Mod.ch b)]) (by kernel_rfl) rfl ?_
  refine DK.mux 17 ((a.Kind == b.Kind) && ((a.Match.Value == b.Match.Value) && (a.Match.Care == b.Match.Care))) (j := 19) (h' := [.box 30 (Mod.ch a), .box 30 (Mod.ch b)]) (by kernel_rfl) (fun z => [(2, .ptr 0 0 none), (3, .ptr 1 0 none), (23, .sc (.bool (z && (a.Prio == b.Prio))))]) ?J2 (fun hb J => ?ht2) (fun hb J => ?hf2)
  case ht2 =>
    exact DK.seg hG 6 [2, 3, 23] (by kernel_rfl) rfl J
  case hf2 =>
    exact DK.seg hG 6 [2, 3, 23] (by kernel_rfl) rfl J
  refine DK.seg hG 1 [2, 3, 24] (t' := [(2, .ptr 0 0 none), (3, .ptr 1 0 none), (24, .sc (.bool (((a.Kind == b.Kind) && ((a.Match.Value == b.Match.Value) && (a.Match.Care == b.Match.Care))) && (a.Prio == b.Prio))))]) (h' := [.box 30 (Mod.ch a), .box 30 (Mod.ch b)]) (by kernel_rfl) rfl ?_
  refine DK.mux 24 (((a.Kind == b.Kind) && ((a.Match.Value == b.Match.Value) && (a.Match.Care == b.Match.Care))) && (a.Prio == b.Prio)) (j := 26) (h' := [.box 30 (Mod.ch a), .box 30 (Mod.ch b)]) (by kernel_rfl) (fun z => [(2, .ptr 0 0 none), (3, .ptr 1 0 none), (30, .sc (.bool (z && (a.Acts == b.Acts))))]) ?J3 (fun hb J => ?ht3) (fun hb J => ?hf3)
  case ht3 =>
    refine DK.seg hG 4 [2, 3, 24, 26, 28] (t' := [(2, .ptr 0 0 none), (3, .ptr 1 0 none), (24, .sc (.bool true)), (26, .sl 48 (List.map Act.av a.Acts) false), (28, .sl 48 (List.map Act.av b.Acts) false)]) (h' := [.box 30 (Mod.ch a), .box 30 (Mod.ch b)]) (by kernel_rfl) rfl ?_
    refine DK.op' [2, 3, 24, 29] (t' := [(2, .ptr 0 0 none), (3, .ptr 1 0 none), (24, .sc (.bool true)), (29, .sc (.bool (a.Acts == b.Acts)))]) (h' := [.box 30 (Mod.ch a), .box 30 (Mod.ch b)]) (LSpec.callP' (podestaref04_SameActs_ok a.Acts b.Acts false false) (by kernel_rfl)) (by kernel_rfl) rfl (by kernel_rfl) rfl ?_
    exact DK.seg hG 1 [2, 3, 30] (by kernel_rfl) rfl J
  case hf3 =>
    exact DK.seg hG 6 [2, 3, 30] (by kernel_rfl) rfl J
  refine DK.seg hG 1 [2, 3, 31] (t' := [(2, .ptr 0 0 none), (3, .ptr 1 0 none), (31, .sc (.bool ((((a.Kind == b.Kind) && ((a.Match.Value == b.Match.Value) && (a.Match.Care == b.Match.Care))) && (a.Prio == b.Prio)) && (a.Acts == b.Acts))))]) (h' := [.box 30 (Mod.ch a), .box 30 (Mod.ch b)]) (by kernel_rfl) rfl ?_
  refine DK.mux 31 ((((a.Kind == b.Kind) && ((a.Match.Value == b.Match.Value) && (a.Match.Care == b.Match.Care))) && (a.Prio == b.Prio)) && (a.Acts == b.Acts)) (j := 33) (h' := [.box 30 (Mod.ch a), .box 30 (Mod.ch b)]) (by kernel_rfl) (fun z => [(2, .ptr 0 0 none), (3, .ptr 1 0 none), (37, .sc (.bool (z && (a.Idle == b.Idle))))]) ?J4 (fun hb J => ?ht4) (fun hb J => ?hf4)
  case ht4 =>
    exact DK.seg hG 6 [2, 3, 37] (by kernel_rfl) rfl J
  case hf4 =>
    exact DK.seg hG 6 [2, 3, 37] (by kernel_rfl) rfl J
  refine DK.seg hG 1 [2, 3, 38] (t' := [(2, .ptr 0 0 none), (3, .ptr 1 0 none), (38, .sc (.bool (((((a.Kind == b.Kind) && ((a.Match.Value == b.Match.Value) && (a.Match.Care == b.Match.Care))) && (a.Prio == b.Prio)) && (a.Acts == b.Acts)) && (a.Idle == b.Idle))))]) (h' := [.box 30 (Mod.ch a), .box 30 (Mod.ch b)]) (by kernel_rfl) rfl ?_
  refine DK.mux 38 (((((a.Kind == b.Kind) && ((a.Match.Value == b.Match.Value) && (a.Match.Care == b.Match.Care))) && (a.Prio == b.Prio)) && (a.Acts == b.Acts)) && (a.Idle == b.Idle)) (j := 40) (h' := [.box 30 (Mod.ch a), .box 30 (Mod.ch b)]) (by kernel_rfl) (fun z => [(2, .ptr 0 0 none), (3, .ptr 1 0 none), (44, .sc (.bool (z && (a.Hard == b.Hard))))]) ?J5 (fun hb J => ?ht5) (fun hb J => ?hf5)
  case ht5 =>
    exact DK.seg hG 6 [2, 3, 44] (by kernel_rfl) rfl J
  case hf5 =>
    exact DK.seg hG 6 [2, 3, 44] (by kernel_rfl) rfl J
  refine DK.seg hG 1 [2, 3, 45] (t' := [(2, .ptr 0 0 none), (3, .ptr 1 0 none), (45, .sc (.bool ((((((a.Kind == b.Kind) && ((a.Match.Value == b.Match.Value) && (a.Match.Care == b.Match.Care))) && (a.Prio == b.Prio)) && (a.Acts == b.Acts)) && (a.Idle == b.Idle)) && (a.Hard == b.Hard))))]) (h' := [.box 30 (Mod.ch a), .box 30 (Mod.ch b)]) (by kernel_rfl) rfl ?_
  refine DK.mux 45 ((((((a.Kind == b.Kind) && ((a.Match.Value == b.Match.Value) && (a.Match.Care == b.Match.Care))) && (a.Prio == b.Prio)) && (a.Acts == b.Acts)) && (a.Idle == b.Idle)) && (a.Hard == b.Hard)) (j := 47) (h' := [.box 30 (Mod.ch a), .box 30 (Mod.ch b)]) (by kernel_rfl) (fun z => [(2, .ptr 0 0 none), (3, .ptr 1 0 none), (51, .sc (.bool (z && (a.Owner == b.Owner))))]) ?J6 (fun hb J => ?ht6) (fun hb J => ?hf6)
  case ht6 =>
    exact DK.seg hG 6 [2, 3, 51] (by kernel_rfl) rfl J
  case hf6 =>
    exact DK.seg hG 6 [2, 3, 51] (by kernel_rfl) rfl J
  refine DK.seg hG 1 [2, 3, 52] (t' := [(2, .ptr 0 0 none), (3, .ptr 1 0 none), (52, .sc (.bool (((((((a.Kind == b.Kind) && ((a.Match.Value == b.Match.Value) && (a.Match.Care == b.Match.Care))) && (a.Prio == b.Prio)) && (a.Acts == b.Acts)) && (a.Idle == b.Idle)) && (a.Hard == b.Hard)) && (a.Owner == b.Owner))))]) (h' := [.box 30 (Mod.ch a), .box 30 (Mod.ch b)]) (by kernel_rfl) rfl ?_
  refine DK.mux 52 (((((((a.Kind == b.Kind) && ((a.Match.Value == b.Match.Value) && (a.Match.Care == b.Match.Care))) && (a.Prio == b.Prio)) && (a.Acts == b.Acts)) && (a.Idle == b.Idle)) && (a.Hard == b.Hard)) && (a.Owner == b.Owner)) (j := 54) (h' := [.box 30 (Mod.ch a), .box 30 (Mod.ch b)]) (by kernel_rfl) (fun z => [(58, .sc (.bool (z && (a.Check == b.Check))))]) ?J7 (fun hb J => ?ht7) (fun hb J => ?hf7)
  case ht7 =>
    exact DK.seg hG 6 [58] (by kernel_rfl) rfl J
  case hf7 =>
    exact DK.seg hG 6 [58] (by kernel_rfl) rfl J
  refine DK.seg hG 1 [4] (t' := [(4, .sc (.bool ((((((((a.Kind == b.Kind) && ((a.Match.Value == b.Match.Value) && (a.Match.Care == b.Match.Care))) && (a.Prio == b.Prio)) && (a.Acts == b.Acts)) && (a.Idle == b.Idle)) && (a.Hard == b.Hard)) && (a.Owner == b.Owner)) && (a.Check == b.Check))))]) (h' := [.box 30 (Mod.ch a), .box 30 (Mod.ch b)]) (by kernel_rfl) rfl ?_
  refine DK.done (by kernel_rfl) (by kernel_rfl) ?_
  subst H
  exact AR.ret0 (fn := Try.f20) hG Try.func20 (by kernel_rfl) hc0 (r0 := .sc (.bool ((((((((a.Kind == b.Kind) && ((a.Match.Value == b.Match.Value) && (a.Match.Care == b.Match.Care))) && (a.Prio == b.Prio)) && (a.Acts == b.Acts)) && (a.Idle == b.Idle)) && (a.Hard == b.Hard)) && (a.Owner == b.Owner)) && (a.Check == b.Check)))) (by kernel_rfl) (WkV.refl _)
theorem podestaref04_SameMods_calls (a : Mod) (b : Mod) : ACalls Try.prog tab.S 20 [Mod.av a, Mod.av b] [] (.sc (.bool (podestaref04_SameMods a b))) [] := podestaref04_SameMods_walk a b _ rfl

end Go.Proofs.Ytockmihfoppkpaa

set_option linter.unusedVariables false
set_option linter.unusedSimpArgs false
set_option maxRecDepth 100000
set_option maxHeartbeats 4000000
namespace Go.Proofs.Ytockmihfoppkpaa
open Go.Sh
/-! ### mods.Touched: function 21 -/
noncomputable def mods_Touched_F : Go.Sh.Fn := ⟨21, bodyOf Try.f21, 28⟩
def mods_Touched_k2 : List Kd := [.pure, .pure, .pure, .loud, .pure]
def mods_Touched_k1 : List Kd := [.read, .pure, .pure, .read, .read, .pure, .pure]
def mods_Touched_k0 : List Kd := [.pure, .pure, .pure, .loud, .pure, .loud]
def mods_Touched_l0s (m1 : Mod) : List Rule → Nat → List Int → Option ((List Int))
  | [], t10, out =>
    some out
  | x :: rest, t10, out =>
    (bif ((mods_Sound m1) && (mods_touches m1 x)) then
      fitO (out.length + [((t10 : Nat) : Int)].length) 8 (
      mods_Touched_l0s m1 rest (t10 + 1) (out ++ [((t10 : Nat) : Int)]))
    else
      mods_Touched_l0s m1 rest (t10 + 1) out)
theorem mods_Touched_l0_walk (list : List Rule) (m1 : Mod) (f_list : Bool) (r : (List Int)) (c0 : Ctx) (hc0 : c0.m.length = 0) (res : (List Int)) (J : AR Try.prog tab mods_Touched_F c0 (Rp tab.S c0 (.sl 3 (List.map (intA .i64) r) false) []) [.code [1, 1, 1]] [(5, .own 1 1000000)] [.box 30 (Mod.ch m1), .row 3 (List.map (intA .i64) res) 1000000 true]) :
    ∀ (rest : List Rule) (t10 : Nat) (hd : list.drop t10 = rest) (out : List Int) (H : mods_Touched_l0s m1 rest t10 out = some res), AR Try.prog tab mods_Touched_F c0 (Rp tab.S c0 (.sl 3 (List.map (intA .i64) r) false) []) [.code [1, 1, 0, 1, 0, 0], .loop [1, 1, 0, 1, 0], .blk 0, .code [1, 1, 1]] [(3, .ptr 0 0 none), (5, .own 1 1000000), (8, .sl 40 (List.map Rule.av list) f_list), (9, .sc (.int .i64 (((List.map Rule.av list).length : Nat) : Int))), (10, .sc (.int .i64 ((t10 : Nat) : Int)))] [.box 30 (Mod.ch m1), .row 3 (List.map (intA .i64) out) 1000000 true] := by
  have hG := tab_ok
  have hm := mixed
  intro rest
  induction rest with
  | nil =>
    intro t10 hd out H
    rw [mods_Touched_l0s] at H
    refine AR.facts 8 rfl fun hf => ?_
    have hlen : list.length ≤ 9223372036854775807 := by have hq := len_ok hf.2.1; rw [List.length_map] at hq; exact hq
    have hge : list.length ≤ t10 := List.drop_eq_nil_iff.1 hd
    have hc : (decide (((t10 : Nat) : Int) < (((List.map Rule.av list).length : Nat) : Int))) = false := by rw [List.length_map]; exact decide_eq_false (by omega)
    refine AR.seg hG hm 3 [3, 5, 8, 9, 10, 11] (k' := [.code [1, 1, 0, 1, 0, 0, 1, 0], .code [1, 1, 0, 1, 0, 0, 1, 1], .loop [1, 1, 0, 1, 0], .blk 0, .code [1, 1, 1]]) (t' := [(3, .ptr 0 0 none), (5, .own 1 1000000), (8, .sl 40 (List.map Rule.av list) f_list), (9, .sc (.int .i64 (((List.map Rule.av list).length : Nat) : Int))), (10, .sc (.int .i64 ((t10 : Nat) : Int))), (11, .sc (.bool (decide (((t10 : Nat) : Int) < (((List.map Rule.av list).length : Nat) : Int)))))]) (h' := [.box 30 (Mod.ch m1), .row 3 (List.map (intA .i64) out) 1000000 true]) (by kernel_rfl) ?_
    refine AR.cond (.tmp 11) (decide (((t10 : Nat) : Int) < (((List.map Rule.av list).length : Nat) : Int))) (by kernel_rfl) (by kernel_rfl) (fun hb => ?ht13) (fun hb => ?hf13)
    case ht13 => exact absurd (hb.symm.trans hc) (by decide)
    case hf13 =>
      refine AR.seg hG hm 1 [5] (k' := [.code [1, 1, 1]]) (t' := [(5, .own 1 1000000)]) (h' := [.box 30 (Mod.ch m1), .row 3 (List.map (intA .i64) out) 1000000 true]) (by kernel_rfl) ?_
      refine AR.keep [5] (t' := [(5, .own 1 1000000)]) (by kernel_rfl) ?_
      obtain rfl := Option.some.inj H
      exact J
  | cons x rest ih =>
    intro t10 hd out H
    rw [mods_Touched_l0s] at H
    refine AR.facts 8 rfl fun hf => ?_
    have hlen : list.length ≤ 9223372036854775807 := by have hq := len_ok hf.2.1; rw [List.length_map] at hq; exact hq
    obtain ⟨hlt, hv_t10, hd2⟩ := drop_cons hd
    have hc : (decide (((t10 : Nat) : Int) < (((List.map Rule.av list).length : Nat) : Int))) = true := by rw [List.length_map]; exact decide_eq_true (by omega)
    have hw : IntKind.i64.wrap (((t10 : Nat) : Int) + 1) = ((t10 + 1 : Nat) : Int) := wrapI_succ (by omega)
    refine AR.seg hG hm 3 [3, 5, 8, 9, 10, 11] (k' := [.code [1, 1, 0, 1, 0, 0, 1, 0], .code [1, 1, 0, 1, 0, 0, 1, 1], .loop [1, 1, 0, 1, 0], .blk 0, .code [1, 1, 1]]) (t' := [(3, .ptr 0 0 none), (5, .own 1 1000000), (8, .sl 40 (List.map Rule.av list) f_list), (9, .sc (.int .i64 (((List.map Rule.av list).length : Nat) : Int))), (10, .sc (.int .i64 ((t10 : Nat) : Int))), (11, .sc (.bool (decide (((t10 : Nat) : Int) < (((List.map Rule.av list).length : Nat) : Int)))))]) (h' := [.box 30 (Mod.ch m1), .row 3 (List.map (intA .i64) out) 1000000 true]) (by kernel_rfl) ?_
    refine AR.cond (.tmp 11) (decide (((t10 : Nat) : Int) < (((List.map Rule.av list).length : Nat) : Int))) (by kernel_rfl) (by kernel_rfl) (fun hb => ?ht14) (fun hb => ?hf14)
    case ht14 =>
      refine AR.seg hG hm 4 [3, 5, 8, 9, 10] (k' := [.code [1, 1, 0, 1, 0, 0, 1, 1, 0, 0, 0], .code [1, 1, 0, 1, 0, 0, 1, 1, 0, 0, 1], .blk 1, .code [1, 1, 0, 1, 0, 0, 1, 1, 1], .loop [1, 1, 0, 1, 0], .blk 0, .code [1, 1, 1]]) (t' := [(3, .ptr 0 0 none), (5, .own 1 1000000), (8, .sl 40 (List.map Rule.av list) f_list), (9, .sc (.int .i64 (((List.map Rule.av list).length : Nat) : Int))), (10, .sc (.int .i64 ((t10 : Nat) : Int)))]) (h' := [.box 30 (Mod.ch m1), .row 3 (List.map (intA .i64) out) 1000000 true]) (by kernel_rfl) ?_
      refine AR.reg hm mods_Touched_k0 (by kernel_rfl) ?_
      refine DK.seg hG 1 [3, 5, 8, 9, 10, 12] (t' := [(3, .ptr 0 0 none), (5, .own 1 1000000), (8, .sl 40 (List.map Rule.av list) f_list), (9, .sc (.int .i64 (((List.map Rule.av list).length : Nat) : Int))), (10, .sc (.int .i64 ((t10 : Nat) : Int))), (12, .sc (.int .i64 ((t10 : Nat) : Int)))]) (h' := [.box 30 (Mod.ch m1), .row 3 (List.map (intA .i64) out) 1000000 true]) (by kernel_rfl) rfl ?_
      refine DK.op' [3, 5, 8, 9, 10, 12, 13] (t' := [(3, .ptr 0 0 none), (5, .own 1 1000000), (8, .sl 40 (List.map Rule.av list) f_list), (9, .sc (.int .i64 (((List.map Rule.av list).length : Nat) : Int))), (10, .sc (.int .i64 ((t10 : Nat) : Int))), (12, .sc (.int .i64 ((t10 : Nat) : Int))), (13, .ep [.arr .u64 12 x.Match.Value, .arr .u64 12 x.Match.Care, .sc (.int .i64 x.Prio), .sl 48 (List.map Act.av x.Acts) false, .sc (.int .i64 x.Idle), .sc (.int .i64 x.Hard), .sc (.int .i64 x.Owner), .sc (.int .i64 x.Hits), .sc (.int .i64 x.Quiet), .sc (.int .i64 x.Age)] 0 none)]) (h' := [.box 30 (Mod.ch m1), .row 3 (List.map (intA .i64) out) 1000000 true]) (LSpec.index' (r := Rule.av x) (fs := [.arr .u64 12 x.Match.Value, .arr .u64 12 x.Match.Care, .sc (.int .i64 x.Prio), .sl 48 (List.map Act.av x.Acts) false, .sc (.int .i64 x.Idle), .sc (.int .i64 x.Hard), .sc (.int .i64 x.Owner), .sc (.int .i64 x.Hits), .sc (.int .i64 x.Quiet), .sc (.int .i64 x.Age)]) hG (rows := List.map Rule.av list) (j := ((t10 : Nat) : Int)) (by kernel_rfl) (ixO_map hv_t10 _) (by kernel_rfl)) (by kernel_rfl) rfl (by kernel_rfl) rfl ?_
      refine DK.seg hG 4 [3, 5, 6, 7, 8, 9, 10] (t' := [(3, .ptr 0 0 none), (5, .own 1 1000000), (6, .sc (.int .i64 ((t10 : Nat) : Int))), (7, .ptr 2 0 none), (8, .sl 40 (List.map Rule.av list) f_list), (9, .sc (.int .i64 (((List.map Rule.av list).length : Nat) : Int))), (10, .sc (.int .i64 ((t10 : Nat) : Int)))]) (h' := [.box 30 (Mod.ch m1), .row 3 (List.map (intA .i64) out) 1000000 true, .box 40 (Rule.ch x)]) (by kernel_rfl) rfl ?_
      refine DK.done (by kernel_rfl) (by kernel_rfl) ?_
      refine AR.seg hG hm 1 [3, 5, 6, 7, 8, 9, 10] (k' := [.code [1, 1, 0, 1, 0, 0, 1, 1, 0, 0, 1, 0], .code [1, 1, 0, 1, 0, 0, 1, 1, 0, 0, 1, 1], .blk 1, .code [1, 1, 0, 1, 0, 0, 1, 1, 1], .loop [1, 1, 0, 1, 0], .blk 0, .code [1, 1, 1]]) (t' := [(3, .ptr 0 0 none), (5, .own 1 1000000), (6, .sc (.int .i64 ((t10 : Nat) : Int))), (7, .ptr 2 0 none), (8, .sl 40 (List.map Rule.av list) f_list), (9, .sc (.int .i64 (((List.map Rule.av list).length : Nat) : Int))), (10, .sc (.int .i64 ((t10 : Nat) : Int)))]) (h' := [.box 30 (Mod.ch m1), .row 3 (List.map (intA .i64) out) 1000000 true, .box 40 (Rule.ch x)]) (by kernel_rfl) ?_
      refine AR.reg hm mods_Touched_k1 (by kernel_rfl) ?_
      refine DK.seg hG 1 [3, 5, 6, 7, 8, 9, 10, 15] (t' := [(3, .ptr 0 0 none), (5, .own 1 1000000), (6, .sc (.int .i64 ((t10 : Nat) : Int))), (7, .ptr 2 0 none), (8, .sl 40 (List.map Rule.av list) f_list), (9, .sc (.int .i64 (((List.map Rule.av list).length : Nat) : Int))), (10, .sc (.int .i64 ((t10 : Nat) : Int))), (15, Mod.av m1)]) (h' := [.box 30 (Mod.ch m1), .row 3 (List.map (intA .i64) out) 1000000 true, .box 40 (Rule.ch x)]) (by kernel_rfl) rfl ?_
      refine DK.op' [3, 5, 6, 7, 8, 9, 10, 16] (t' := [(3, .ptr 0 0 none), (5, .own 1 1000000), (6, .sc (.int .i64 ((t10 : Nat) : Int))), (7, .ptr 2 0 none), (8, .sl 40 (List.map Rule.av list) f_list), (9, .sc (.int .i64 (((List.map Rule.av list).length : Nat) : Int))), (10, .sc (.int .i64 ((t10 : Nat) : Int))), (16, .sc (.bool (mods_Sound m1)))]) (h' := [.box 30 (Mod.ch m1), .row 3 (List.map (intA .i64) out) 1000000 true, .box 40 (Rule.ch x)]) (LSpec.callP' (mods_Sound_calls m1) (by kernel_rfl)) (by kernel_rfl) rfl (by kernel_rfl) rfl ?_
      refine DK.seg hG 1 [3, 5, 6, 7, 8, 9, 10, 17] (t' := [(3, .ptr 0 0 none), (5, .own 1 1000000), (6, .sc (.int .i64 ((t10 : Nat) : Int))), (7, .ptr 2 0 none), (8, .sl 40 (List.map Rule.av list) f_list), (9, .sc (.int .i64 (((List.map Rule.av list).length : Nat) : Int))), (10, .sc (.int .i64 ((t10 : Nat) : Int))), (17, .sc (.bool (mods_Sound m1)))]) (h' := [.box 30 (Mod.ch m1), .row 3 (List.map (intA .i64) out) 1000000 true, .box 40 (Rule.ch x)]) (by kernel_rfl) rfl ?_
      refine DK.mux 17 (mods_Sound m1) (j := 7) (h' := [.box 30 (Mod.ch m1), .row 3 (List.map (intA .i64) out) 1000000 true, .box 40 (Rule.ch x)]) (by kernel_rfl) (fun z => [(3, .ptr 0 0 none), (5, .own 1 1000000), (6, .sc (.int .i64 ((t10 : Nat) : Int))), (8, .sl 40 (List.map Rule.av list) f_list), (9, .sc (.int .i64 (((List.map Rule.av list).length : Nat) : Int))), (10, .sc (.int .i64 ((t10 : Nat) : Int))), (21, .sc (.bool (z && (mods_touches m1 x))))]) ?J15 (fun hb J => ?ht15) (fun hb J => ?hf15)
      case ht15 =>
        refine DK.seg hG 2 [3, 5, 6, 8, 9, 10, 17, 18, 19] (t' := [(3, .ptr 0 0 none), (5, .own 1 1000000), (6, .sc (.int .i64 ((t10 : Nat) : Int))), (8, .sl 40 (List.map Rule.av list) f_list), (9, .sc (.int .i64 (((List.map Rule.av list).length : Nat) : Int))), (10, .sc (.int .i64 ((t10 : Nat) : Int))), (17, .sc (.bool true)), (18, Mod.av m1), (19, Rule.av x)]) (h' := [.box 30 (Mod.ch m1), .row 3 (List.map (intA .i64) out) 1000000 true, .box 40 (Rule.ch x)]) (by kernel_rfl) rfl ?_
        refine DK.op' [3, 5, 6, 8, 9, 10, 17, 20] (t' := [(3, .ptr 0 0 none), (5, .own 1 1000000), (6, .sc (.int .i64 ((t10 : Nat) : Int))), (8, .sl 40 (List.map Rule.av list) f_list), (9, .sc (.int .i64 (((List.map Rule.av list).length : Nat) : Int))), (10, .sc (.int .i64 ((t10 : Nat) : Int))), (17, .sc (.bool true)), (20, .sc (.bool (mods_touches m1 x)))]) (h' := [.box 30 (Mod.ch m1), .row 3 (List.map (intA .i64) out) 1000000 true, .box 40 (Rule.ch x)]) (LSpec.callP' (mods_touches_calls m1 x) (by kernel_rfl)) (by kernel_rfl) rfl (by kernel_rfl) rfl ?_
        exact DK.seg hG 1 [3, 5, 6, 8, 9, 10, 21] (by kernel_rfl) rfl J
      case hf15 =>
        exact DK.seg hG 4 [3, 5, 6, 8, 9, 10, 21] (by kernel_rfl) rfl J
      refine DK.done (by kernel_rfl) (by kernel_rfl) ?_
      refine AR.cond (.tmp 21) ((mods_Sound m1) && (mods_touches m1 x)) (by kernel_rfl) (by kernel_rfl) (fun hb => ?ht16) (fun hb => ?hf16)
      case ht16 =>
        replace H := cond_t hb H
        refine AR.reg hm mods_Touched_k2 (by kernel_rfl) ?_
        refine DK.seg hG 3 [3, 8, 9, 10, 22, 24] (t' := [(3, .ptr 0 0 none), (8, .sl 40 (List.map Rule.av list) f_list), (9, .sc (.int .i64 (((List.map Rule.av list).length : Nat) : Int))), (10, .sc (.int .i64 ((t10 : Nat) : Int))), (22, .own 1 1000000), (24, .sl 3 (List.map (intA .i64) [((t10 : Nat) : Int)]) true)]) (h' := [.box 30 (Mod.ch m1), .row 3 (List.map (intA .i64) out) 1000000 true, .box 40 (Rule.ch x)]) (by kernel_rfl) rfl ?_
        obtain ⟨hfit, H⟩ := fitO_some H
        refine DK.op' [3, 8, 9, 10, 25] (t' := [(3, .ptr 0 0 none), (8, .sl 40 (List.map Rule.av list) f_list), (9, .sc (.int .i64 (((List.map Rule.av list).length : Nat) : Int))), (10, .sc (.int .i64 ((t10 : Nat) : Int))), (25, .own 1 1000001)]) (h' := [.box 30 (Mod.ch m1), .row 3 (List.map (intA .i64) (out ++ [((t10 : Nat) : Int)])) 1000001 true, .box 40 (Rule.ch x)]) (LSpec.append' hG (intA .i64) out [((t10 : Nat) : Int)] 1 1000000 3 8 hfit (by kernel_rfl)) (by kernel_rfl) (by kernel_rfl) (by kernel_rfl) rfl ?_
        refine DK.seg hG 1 [3, 5, 8, 9, 10] (t' := [(3, .ptr 0 0 none), (5, .own 1 1000001), (8, .sl 40 (List.map Rule.av list) f_list), (9, .sc (.int .i64 (((List.map Rule.av list).length : Nat) : Int))), (10, .sc (.int .i64 ((t10 : Nat) : Int)))]) (h' := [.box 30 (Mod.ch m1), .row 3 (List.map (intA .i64) (out ++ [((t10 : Nat) : Int)])) 1000001 true, .box 40 (Rule.ch x)]) (by kernel_rfl) rfl ?_
        refine DK.done (by kernel_rfl) (by kernel_rfl) ?_
        refine AR.seg hG hm 2 [3, 5, 8, 9, 10] (k' := [.loop [1, 1, 0, 1, 0], .blk 0, .code [1, 1, 1]]) (t' := [(3, .ptr 0 0 none), (5, .own 1 1000001), (8, .sl 40 (List.map Rule.av list) f_list), (9, .sc (.int .i64 (((List.map Rule.av list).length : Nat) : Int))), (10, .sc (.int .i64 (IntKind.i64.wrap (((t10 : Nat) : Int) + 1))))]) (h' := [.box 30 (Mod.ch m1), .row 3 (List.map (intA .i64) (out ++ [((t10 : Nat) : Int)])) 1000001 true, .box 40 (Rule.ch x)]) (by kernel_rfl) ?_
        refine AR.keep [3, 5, 8, 9, 10] (t' := [(3, .ptr 0 0 none), (5, .own 1 1000001), (8, .sl 40 (List.map Rule.av list) f_list), (9, .sc (.int .i64 (((List.map Rule.av list).length : Nat) : Int))), (10, .sc (.int .i64 (IntKind.i64.wrap (((t10 : Nat) : Int) + 1))))]) (by kernel_rfl) ?_
        refine AR.norm' 1 1000000 hc0 (t' := [(3, .ptr 0 0 none), (5, .own 1 1000000), (8, .sl 40 (List.map Rule.av list) f_list), (9, .sc (.int .i64 (((List.map Rule.av list).length : Nat) : Int))), (10, .sc (.int .i64 (IntKind.i64.wrap (((t10 : Nat) : Int) + 1))))]) (h' := [.box 30 (Mod.ch m1), .row 3 (List.map (intA .i64) (out ++ [((t10 : Nat) : Int)])) 1000000 true, .box 40 (Rule.ch x)]) (by kernel_rfl) ?_
        refine AR.drop' 2 hc0 (t' := [(3, .ptr 0 0 none), (5, .own 1 1000000), (8, .sl 40 (List.map Rule.av list) f_list), (9, .sc (.int .i64 (((List.map Rule.av list).length : Nat) : Int))), (10, .sc (.int .i64 (IntKind.i64.wrap (((t10 : Nat) : Int) + 1))))]) (h' := [.box 30 (Mod.ch m1), .row 3 (List.map (intA .i64) (out ++ [((t10 : Nat) : Int)])) 1000000 true]) (by kernel_rfl) ?_
        refine AR.loop_round ?_
        rw [hw]
        exact ih (t10 + 1) hd2 (out ++ [((t10 : Nat) : Int)]) H
      case hf16 =>
        replace H := cond_f hb H
        refine AR.seg hG hm 3 [3, 5, 8, 9, 10] (k' := [.loop [1, 1, 0, 1, 0], .blk 0, .code [1, 1, 1]]) (t' := [(3, .ptr 0 0 none), (5, .own 1 1000000), (8, .sl 40 (List.map Rule.av list) f_list), (9, .sc (.int .i64 (((List.map Rule.av list).length : Nat) : Int))), (10, .sc (.int .i64 (IntKind.i64.wrap (((t10 : Nat) : Int) + 1))))]) (h' := [.box 30 (Mod.ch m1), .row 3 (List.map (intA .i64) out) 1000000 true, .box 40 (Rule.ch x)]) (by kernel_rfl) ?_
        refine AR.keep [3, 5, 8, 9, 10] (t' := [(3, .ptr 0 0 none), (5, .own 1 1000000), (8, .sl 40 (List.map Rule.av list) f_list), (9, .sc (.int .i64 (((List.map Rule.av list).length : Nat) : Int))), (10, .sc (.int .i64 (IntKind.i64.wrap (((t10 : Nat) : Int) + 1))))]) (by kernel_rfl) ?_
        refine AR.drop' 2 hc0 (t' := [(3, .ptr 0 0 none), (5, .own 1 1000000), (8, .sl 40 (List.map Rule.av list) f_list), (9, .sc (.int .i64 (((List.map Rule.av list).length : Nat) : Int))), (10, .sc (.int .i64 (IntKind.i64.wrap (((t10 : Nat) : Int) + 1))))]) (h' := [.box 30 (Mod.ch m1), .row 3 (List.map (intA .i64) out) 1000000 true]) (by kernel_rfl) ?_
        refine AR.loop_round ?_
        rw [hw]
        exact ih (t10 + 1) hd2 out H
    case hf14 => exact absurd (hc.symm.trans hb) (by decide)

def mods_Touched_raw (list : List Rule) (m1 : Mod) : Option ((List Int)) :=
  (mods_Touched_l0s m1 list 0 ([] : List Int)).bind fun v =>
  some v
theorem mods_Touched_walk (list : List Rule) (m1 : Mod) (f_list : Bool) (r : (List Int)) (H : mods_Touched_raw list m1 = some r) :
    ACalls Try.prog tab.S 21 [.sl 40 (List.map Rule.av list) f_list, Mod.av m1] [] (.sl 3 (List.map (intA .i64) r) false) [] := by
  have hG := tab_ok
  have hm := mixed
  refine ACalls.of_AR (G := tab) mods_Touched_F (fn := Try.f21) Try.func21 (by kernel_rfl) (by kernel_rfl) (by kernel_rfl) (Nat.le_of_ble_eq_true (by kernel_rfl)) ?_
  intro c0 hc0
  replace hc0 : c0.m.length = 0 := hc0
  rw [mods_Touched_raw] at H
  refine AR.seg hG hm 8 [3, 5, 8, 9, 10] (k' := [.code [1, 1, 0, 1, 0], .blk 0, .code [1, 1, 1]]) (t' := [(3, .ptr 0 0 none), (5, .sl 0 [] true), (8, .sl 40 (List.map Rule.av list) f_list), (9, .sc (.int .i64 (((List.map Rule.av list).length : Nat) : Int))), (10, .sc (.int .i64 0))]) (h' := [.box 30 (Mod.ch m1)]) (by kernel_rfl) ?_
  refine AR.adoptB' 5 3 (t' := [(5, .own 1 1000000), (3, .ptr 0 0 none), (8, .sl 40 (List.map Rule.av list) f_list), (9, .sc (.int .i64 (((List.map Rule.av list).length : Nat) : Int))), (10, .sc (.int .i64 0))]) (h' := [.box 30 (Mod.ch m1), .row 3 (List.map (intA .i64) ([] : List Int)) 1000000 true]) (by kernel_rfl) ?_
  refine AR.keep [3, 5, 8, 9, 10] (t' := [(3, .ptr 0 0 none), (5, .own 1 1000000), (8, .sl 40 (List.map Rule.av list) f_list), (9, .sc (.int .i64 (((List.map Rule.av list).length : Nat) : Int))), (10, .sc (.int .i64 0))]) (by kernel_rfl) ?_
  obtain ⟨v, hv, H⟩ := Option.bind_eq_some_iff.1 H
  refine AR.into (by kernel_rfl) ?_
  refine mods_Touched_l0_walk list m1 f_list r c0 hc0 v ?_ list 0 rfl ([] : List Int) hv
  refine AR.seg hG hm 2 [4] (k' := [.code [1, 1, 1, 1]]) (t' := [(4, .own 1 1000000)]) (h' := [.box 30 (Mod.ch m1), .row 3 (List.map (intA .i64) v) 1000000 true]) (by kernel_rfl) ?_
  obtain rfl := Option.some.inj H
  exact AR.ret0 (fn := Try.f21) hG Try.func21 (by kernel_rfl) hc0 (r0 := .sl 3 (List.map (intA .i64) v) false) (by kernel_rfl) (WkV.refl _)

def touchedL (m : Mod) : List Rule → Nat → List Int
  | [], _ => []
  | x :: l, i => bif mods_Sound m && mods_touches m x then ((i : Nat) : Int) :: touchedL m l (i + 1) else touchedL m l (i + 1)
theorem mods_Touched_l0s_eq (m : Mod) : ∀ (l : List Rule) (i : Nat) (out : List Int), out.length + l.length ≤ 1000000000000 → mods_Touched_l0s m l i out = some (out ++ touchedL m l i)
  | [], i, out, _ => by rw [mods_Touched_l0s, touchedL, List.append_nil]
  | x :: l, i, out, h => by
      rw [List.length_cons] at h
      rw [mods_Touched_l0s, touchedL, fitO_eq (by rw [List.length_cons, List.length_nil]; omega), mods_Touched_l0s_eq m l (i + 1) out (by omega), mods_Touched_l0s_eq m l (i + 1) (out ++ [((i : Nat) : Int)]) (by rw [List.length_append, List.length_cons, List.length_nil]; omega), List.append_assoc]
      cases mods_Sound m && mods_touches m x <;> rfl
theorem mods_Touched_ok (l : List Rule) (m : Mod) (f : Bool) : ACalls Try.prog tab.S 21 [.sl 40 (List.map Rule.av l) f, Mod.av m] [] (.sl 3 (List.map (intA .i64) (touchedL m l 0)) false) [] := by
  refine ACalls.facts (ent_of Try.func21 (by kernel_rfl) (by kernel_rfl)) fun hf => ?_
  have l0 : l.length * 272 ≤ 140737488355328 := by have h := hf.1.1; rw [List.length_map] at h; exact h
  refine mods_Touched_walk l m f _ ?_
  rw [mods_Touched_raw, mods_Touched_l0s_eq m l 0 [] (by rw [List.length_nil]; omega)]
  rfl

end Go.Proofs.Ytockmihfoppkpaa

set_option linter.unusedVariables false
set_option linter.unusedSimpArgs false
set_option maxRecDepth 100000
set_option maxHeartbeats 4000000
namespace Go.Proofs.Ytockmihfoppkpaa
open Go.Sh
/-! ### podestalaw07.ModsSame: function 10 -/
noncomputable def podestalaw07_ModsSame_F : Go.Sh.Fn := ⟨10, bodyOf Try.f10, 70⟩
def podestalaw07_ModsSame_k1 : List Kd := [.pure, .pure]
def podestalaw07_ModsSame_k6 : List Kd := [.pure, .pure, .pure, .pure, .pure, .pure, .pure, .pure, .pure, .pure, .pure, .pure, .pure]
def podestalaw07_ModsSame_k5 : List Kd := [.pure, .read, .pure, .pure, .pure, .pure, .pure, .pure]
def podestalaw07_ModsSame_k4 : List Kd := [.pure, .read, .pure, .pure, .pure, .pure, .pure, .pure]
def podestalaw07_ModsSame_k3 : List Kd := [.pure, .pure, .pure, .pure, .read, .read, .pure, .pure, .pure, .pure, .read, .read, .pure, .pure, .pure]
def podestalaw07_ModsSame_k2 : List Kd := [.read, .read, .pure, .pure]
def podestalaw07_ModsSame_k0 : List Kd := [.pure, .pure, .pure, .pure, .pure, .read, .pure, .pure, .pure, .pure, .pure, .read, .pure, .pure, .pure]
def podestalaw07_ModsSame_raw (l : List Rule) (a : Mod) (b : Mod) : Option (Bool) :=
  (bif (((decide ((((List.map Rule.av l).length : Nat) : Int) > 30)) || (decide ((((List.map Act.av a.Acts).length : Nat) : Int) > 20))) || (decide ((((List.map Act.av b.Acts).length : Nat) : Int) > 20))) then
    some true
  else
    (bif (((mods_Same a b) != (podestaref04_SameMods a b)) || (!(mods_Same a a))) then
      some false
    else
      (applyO l a 1000).bind fun x =>
      (applyO l b 1000).bind fun x1 =>
      some ((!(mods_Same a b)) || ((x.2 == x1.2) && (zipAll podestaref04_Equal x.1 x1.1)))))
theorem podestalaw07_ModsSame_walk (l : List Rule) (a : Mod) (b : Mod) (f_l : Bool) (r : Bool) (H : podestalaw07_ModsSame_raw l a b = some r) :
    ACalls Try.prog tab.S 10 [.sl 40 (List.map Rule.av l) f_l, Mod.av a, Mod.av b] [] (.sc (.bool r)) [] := by
  have hG := tab_ok
  have hm := mixed
  refine ACalls.of_AR (G := tab) podestalaw07_ModsSame_F (fn := Try.f10) Try.func10 (by kernel_rfl) (by kernel_rfl) (by kernel_rfl) (Nat.le_of_ble_eq_true (by kernel_rfl)) ?_
  intro c0 hc0
  replace hc0 : c0.m.length = 0 := hc0
  rw [podestalaw07_ModsSame_raw] at H
  refine AR.seg hG hm 4 [0, 4, 5] (k' := [.code [1, 0, 0], .code [1, 0, 1], .code [1, 1]]) (t' := [(0, .sl 40 (List.map Rule.av l) f_l), (4, .ptr 0 0 none), (5, .ptr 1 0 none)]) (h' := [.box 30 (Mod.ch a), .box 30 (Mod.ch b)]) (by kernel_rfl) ?_
  refine AR.reg hm podestalaw07_ModsSame_k0 (by kernel_rfl) ?_
  refine DK.seg hG 4 [0, 4, 5, 15] (t' := [(0, .sl 40 (List.map Rule.av l) f_l), (4, .ptr 0 0 none), (5, .ptr 1 0 none), (15, .sc (.bool (decide ((((List.map Rule.av l).length : Nat) : Int) > 30))))]) (h' := [.box 30 (Mod.ch a), .box 30 (Mod.ch b)]) (by kernel_rfl) rfl ?_
  refine DK.mux 15 (decide ((((List.map Rule.av l).length : Nat) : Int) > 30)) (j := 9) (h' := [.box 30 (Mod.ch a), .box 30 (Mod.ch b)]) (by kernel_rfl) (fun z => [(0, .sl 40 (List.map Rule.av l) f_l), (4, .ptr 0 0 none), (5, .ptr 1 0 none), (20, .sc (.bool (z || (decide ((((List.map Act.av a.Acts).length : Nat) : Int) > 20)))))]) ?J1 (fun hb J => ?ht1) (fun hb J => ?hf1)
  case ht1 =>
    exact DK.seg hG 5 [0, 4, 5, 20] (by kernel_rfl) rfl J
  case hf1 =>
    exact DK.seg hG 5 [0, 4, 5, 20] (by kernel_rfl) rfl J
  refine DK.seg hG 1 [0, 4, 5, 21] (t' := [(0, .sl 40 (List.map Rule.av l) f_l), (4, .ptr 0 0 none), (5, .ptr 1 0 none), (21, .sc (.bool ((decide ((((List.map Rule.av l).length : Nat) : Int) > 30)) || (decide ((((List.map Act.av a.Acts).length : Nat) : Int) > 20)))))]) (h' := [.box 30 (Mod.ch a), .box 30 (Mod.ch b)]) (by kernel_rfl) rfl ?_
  refine DK.mux 21 ((decide ((((List.map Rule.av l).length : Nat) : Int) > 30)) || (decide ((((List.map Act.av a.Acts).length : Nat) : Int) > 20))) (j := 15) (h' := [.box 30 (Mod.ch a), .box 30 (Mod.ch b)]) (by kernel_rfl) (fun z => [(0, .sl 40 (List.map Rule.av l) f_l), (4, .ptr 0 0 none), (5, .ptr 1 0 none), (26, .sc (.bool (z || (decide ((((List.map Act.av b.Acts).length : Nat) : Int) > 20)))))]) ?J2 (fun hb J => ?ht2) (fun hb J => ?hf2)
  case ht2 =>
    exact DK.seg hG 5 [0, 4, 5, 26] (by kernel_rfl) rfl J
  case hf2 =>
    exact DK.seg hG 5 [0, 4, 5, 26] (by kernel_rfl) rfl J
  refine DK.done (by kernel_rfl) (by kernel_rfl) ?_
  refine AR.cond (.tmp 26) (((decide ((((List.map Rule.av l).length : Nat) : Int) > 30)) || (decide ((((List.map Act.av a.Acts).length : Nat) : Int) > 20))) || (decide ((((List.map Act.av b.Acts).length : Nat) : Int) > 20))) (by kernel_rfl) (by kernel_rfl) (fun hb => ?ht3) (fun hb => ?hf3)
  case ht3 =>
    replace H := cond_t hb H
    refine AR.seg hG hm 1 [] (k' := [.code [1, 0, 1, 0, 0], .code [1, 0, 1, 0, 1], .code [1, 1]]) (t' := []) (h' := [.box 30 (Mod.ch a), .box 30 (Mod.ch b)]) (by kernel_rfl) ?_
    refine AR.reg hm podestalaw07_ModsSame_k1 (by kernel_rfl) ?_
    refine DK.op' [27] (t' := [(27, .sc (.bool true))]) (h' := [.box 30 (Mod.ch a), .box 30 (Mod.ch b)]) (LSpec.callP' (podestalaw07_answers_ok) (by kernel_rfl)) (by kernel_rfl) rfl (by kernel_rfl) rfl ?_
    refine DK.seg hG 1 [6] (t' := [(6, .sc (.bool true))]) (h' := [.box 30 (Mod.ch a), .box 30 (Mod.ch b)]) (by kernel_rfl) rfl ?_
    refine DK.done (by kernel_rfl) (by kernel_rfl) ?_
    obtain rfl := Option.some.inj H
    exact AR.ret0 (fn := Try.f10) hG Try.func10 (by kernel_rfl) hc0 (r0 := .sc (.bool true)) (by kernel_rfl) (WkV.refl _)
  case hf3 =>
    replace H := cond_f hb H
    refine AR.seg hG hm 2 [0, 4, 5] (k' := [.code [1, 1, 0], .code [1, 1, 1]]) (t' := [(0, .sl 40 (List.map Rule.av l) f_l), (4, .ptr 0 0 none), (5, .ptr 1 0 none)]) (h' := [.box 30 (Mod.ch a), .box 30 (Mod.ch b)]) (by kernel_rfl) ?_
    refine AR.reg hm podestalaw07_ModsSame_k2 (by kernel_rfl) ?_
    refine DK.seg hG 2 [0, 4, 5, 28, 29] (t' := [(0, .sl 40 (List.map Rule.av l) f_l), (4, .ptr 0 0 none), (5, .ptr 1 0 none), (28, Mod.av a), (29, Mod.av b)]) (h' := [.box 30 (Mod.ch a), .box 30 (Mod.ch b)]) (by kernel_rfl) rfl ?_
    refine DK.op' [0, 4, 5, 30] (t' := [(0, .sl 40 (List.map Rule.av l) f_l), (4, .ptr 0 0 none), (5, .ptr 1 0 none), (30, .sc (.bool (mods_Same a b)))]) (h' := [.box 30 (Mod.ch a), .box 30 (Mod.ch b)]) (LSpec.callP' (mods_Same_calls a b) (by kernel_rfl)) (by kernel_rfl) rfl (by kernel_rfl) rfl ?_
    refine DK.seg hG 1 [0, 4, 5, 7] (t' := [(0, .sl 40 (List.map Rule.av l) f_l), (4, .ptr 0 0 none), (5, .ptr 1 0 none), (7, .sc (.bool (mods_Same a b)))]) (h' := [.box 30 (Mod.ch a), .box 30 (Mod.ch b)]) (by kernel_rfl) rfl ?_
    refine DK.done (by kernel_rfl) (by kernel_rfl) ?_
    refine AR.seg hG hm 2 [0, 4, 5, 7] (k' := [.code [1, 1, 1, 0, 0], .code [1, 1, 1, 0, 1], .code [1, 1, 1, 1]]) (t' := [(0, .sl 40 (List.map Rule.av l) f_l), (4, .ptr 0 0 none), (5, .ptr 1 0 none), (7, .sc (.bool (mods_Same a b)))]) (h' := [.box 30 (Mod.ch a), .box 30 (Mod.ch b)]) (by kernel_rfl) ?_
    refine AR.reg hm podestalaw07_ModsSame_k3 (by kernel_rfl) ?_
    refine DK.op' [0, 4, 5, 7, 31] (t' := [(0, .sl 40 (List.map Rule.av l) f_l), (4, .ptr 0 0 none), (5, .ptr 1 0 none), (7, .sc (.bool (mods_Same a b))), (31, .sc (.bool true))]) (h' := [.box 30 (Mod.ch a), .box 30 (Mod.ch b)]) (LSpec.callP' (podestalaw07_answers_ok) (by kernel_rfl)) (by kernel_rfl) rfl (by kernel_rfl) rfl ?_
    refine DK.seg hG 5 [0, 4, 5, 7, 33, 34, 35, 36] (t' := [(0, .sl 40 (List.map Rule.av l) f_l), (4, .ptr 0 0 none), (5, .ptr 1 0 none), (7, .sc (.bool (mods_Same a b))), (33, .sc (.bool false)), (34, .sc (.bool (mods_Same a b))), (35, Mod.av a), (36, Mod.av b)]) (h' := [.box 30 (Mod.ch a), .box 30 (Mod.ch b)]) (by kernel_rfl) rfl ?_
    refine DK.op' [0, 4, 5, 7, 33, 34, 37] (t' := [(0, .sl 40 (List.map Rule.av l) f_l), (4, .ptr 0 0 none), (5, .ptr 1 0 none), (7, .sc (.bool (mods_Same a b))), (33, .sc (.bool false)), (34, .sc (.bool (mods_Same a b))), (37, .sc (.bool (podestaref04_SameMods a b)))]) (h' := [.box 30 (Mod.ch a), .box 30 (Mod.ch b)]) (LSpec.callP' (podestaref04_SameMods_calls a b) (by kernel_rfl)) (by kernel_rfl) rfl (by kernel_rfl) rfl ?_
    refine DK.seg hG 3 [0, 4, 5, 7, 40] (t' := [(0, .sl 40 (List.map Rule.av l) f_l), (4, .ptr 0 0 none), (5, .ptr 1 0 none), (7, .sc (.bool (mods_Same a b))), (40, .sc (.bool ((mods_Same a b) != (podestaref04_SameMods a b))))]) (h' := [.box 30 (Mod.ch a), .box 30 (Mod.ch b)]) (by kernel_rfl) rfl ?_
    refine DK.mux 40 ((mods_Same a b) != (podestaref04_SameMods a b)) (j := 15) (h' := [.box 30 (Mod.ch a), .box 30 (Mod.ch b)]) (by kernel_rfl) (fun z => [(0, .sl 40 (List.map Rule.av l) f_l), (4, .ptr 0 0 none), (5, .ptr 1 0 none), (7, .sc (.bool (mods_Same a b))), (45, .sc (.bool (z || (!(mods_Same a a)))))]) ?J4 (fun hb J => ?ht4) (fun hb J => ?hf4)
    case ht4 =>
      exact DK.seg hG 5 [0, 4, 5, 7, 45] (by kernel_rfl) rfl J
    case hf4 =>
      refine DK.seg hG 2 [0, 4, 5, 7, 40, 41, 42] (t' := [(0, .sl 40 (List.map Rule.av l) f_l), (4, .ptr 0 0 none), (5, .ptr 1 0 none), (7, .sc (.bool (mods_Same a b))), (40, .sc (.bool false)), (41, Mod.av a), (42, Mod.av a)]) (h' := [.box 30 (Mod.ch a), .box 30 (Mod.ch b)]) (by kernel_rfl) rfl ?_
      refine DK.op' [0, 4, 5, 7, 40, 43] (t' := [(0, .sl 40 (List.map Rule.av l) f_l), (4, .ptr 0 0 none), (5, .ptr 1 0 none), (7, .sc (.bool (mods_Same a b))), (40, .sc (.bool false)), (43, .sc (.bool (mods_Same a a)))]) (h' := [.box 30 (Mod.ch a), .box 30 (Mod.ch b)]) (LSpec.callP' (mods_Same_calls a a) (by kernel_rfl)) (by kernel_rfl) rfl (by kernel_rfl) rfl ?_
      exact DK.seg hG 2 [0, 4, 5, 7, 45] (by kernel_rfl) rfl J
    refine DK.done (by kernel_rfl) (by kernel_rfl) ?_
    refine AR.cond (.tmp 45) (((mods_Same a b) != (podestaref04_SameMods a b)) || (!(mods_Same a a))) (by kernel_rfl) (by kernel_rfl) (fun hb => ?ht5) (fun hb => ?hf5)
    case ht5 =>
      replace H := cond_t hb H
      refine AR.seg hG hm 2 [6] (k' := [.code [1, 1, 1, 0, 1, 0, 1], .code [1, 1, 1, 1]]) (t' := [(6, .sc (.bool false))]) (h' := [.box 30 (Mod.ch a), .box 30 (Mod.ch b)]) (by kernel_rfl) ?_
      obtain rfl := Option.some.inj H
      exact AR.ret0 (fn := Try.f10) hG Try.func10 (by kernel_rfl) hc0 (r0 := .sc (.bool false)) (by kernel_rfl) (WkV.refl _)
    case hf5 =>
      replace H := cond_f hb H
      refine AR.seg hG hm 2 [0, 4, 5, 7] (k' := [.code [1, 1, 1, 1, 0], .code [1, 1, 1, 1, 1]]) (t' := [(0, .sl 40 (List.map Rule.av l) f_l), (4, .ptr 0 0 none), (5, .ptr 1 0 none), (7, .sc (.bool (mods_Same a b)))]) (h' := [.box 30 (Mod.ch a), .box 30 (Mod.ch b)]) (by kernel_rfl) ?_
      refine AR.reg hm podestalaw07_ModsSame_k4 (by kernel_rfl) ?_
      refine DK.seg hG 2 [0, 5, 7, 47, 48] (t' := [(0, .sl 40 (List.map Rule.av l) f_l), (5, .ptr 1 0 none), (7, .sc (.bool (mods_Same a b))), (47, .sl 40 (List.map Rule.av l) f_l), (48, Mod.av a)]) (h' := [.box 30 (Mod.ch a), .box 30 (Mod.ch b)]) (by kernel_rfl) rfl ?_
      obtain ⟨x, hv, H⟩ := Option.bind_eq_some_iff.1 H
      refine DK.op' [0, 5, 7, 49] (t' := [(0, .sl 40 (List.map Rule.av l) f_l), (5, .ptr 1 0 none), (7, .sc (.bool (mods_Same a b))), (49, .tup [.sl 40 (List.map Rule.av x.1) false, .sc (.int .i64 x.2)])]) (h' := [.box 30 (Mod.ch a), .box 30 (Mod.ch b)]) (LSpec.callP' (mods_Apply_ok l a 1000 f_l x hv) (by kernel_rfl)) (by kernel_rfl) rfl (by kernel_rfl) rfl ?_
      refine DK.seg hG 5 [0, 5, 7, 8, 9] (t' := [(0, .sl 40 (List.map Rule.av l) f_l), (5, .ptr 1 0 none), (7, .sc (.bool (mods_Same a b))), (8, .sl 40 (List.map Rule.av x.1) false), (9, .sc (.int .i64 x.2))]) (h' := [.box 30 (Mod.ch a), .box 30 (Mod.ch b)]) (by kernel_rfl) rfl ?_
      refine DK.done (by kernel_rfl) (by kernel_rfl) ?_
      refine AR.seg hG hm 1 [0, 5, 7, 8, 9] (k' := [.code [1, 1, 1, 1, 1, 0], .code [1, 1, 1, 1, 1, 1]]) (t' := [(0, .sl 40 (List.map Rule.av l) f_l), (5, .ptr 1 0 none), (7, .sc (.bool (mods_Same a b))), (8, .sl 40 (List.map Rule.av x.1) false), (9, .sc (.int .i64 x.2))]) (h' := [.box 30 (Mod.ch a), .box 30 (Mod.ch b)]) (by kernel_rfl) ?_
      refine AR.reg hm podestalaw07_ModsSame_k5 (by kernel_rfl) ?_
      refine DK.seg hG 2 [7, 8, 9, 53, 54] (t' := [(7, .sc (.bool (mods_Same a b))), (8, .sl 40 (List.map Rule.av x.1) false), (9, .sc (.int .i64 x.2)), (53, .sl 40 (List.map Rule.av l) f_l), (54, Mod.av b)]) (h' := [.box 30 (Mod.ch a), .box 30 (Mod.ch b)]) (by kernel_rfl) rfl ?_
      obtain ⟨x1, hv, H⟩ := Option.bind_eq_some_iff.1 H
      refine DK.op' [7, 8, 9, 55] (t' := [(7, .sc (.bool (mods_Same a b))), (8, .sl 40 (List.map Rule.av x.1) false), (9, .sc (.int .i64 x.2)), (55, .tup [.sl 40 (List.map Rule.av x1.1) false, .sc (.int .i64 x1.2)])]) (h' := [.box 30 (Mod.ch a), .box 30 (Mod.ch b)]) (LSpec.callP' (mods_Apply_ok l b 1000 f_l x1 hv) (by kernel_rfl)) (by kernel_rfl) rfl (by kernel_rfl) rfl ?_
      refine DK.seg hG 5 [7, 8, 9, 10, 11] (t' := [(7, .sc (.bool (mods_Same a b))), (8, .sl 40 (List.map Rule.av x.1) false), (9, .sc (.int .i64 x.2)), (10, .sl 40 (List.map Rule.av x1.1) false), (11, .sc (.int .i64 x1.2))]) (h' := [.box 30 (Mod.ch a), .box 30 (Mod.ch b)]) (by kernel_rfl) rfl ?_
      refine DK.done (by kernel_rfl) (by kernel_rfl) ?_
      refine AR.seg hG hm 1 [7, 8, 9, 10, 11] (k' := [.code [1, 1, 1, 1, 1, 1, 0], .code [1, 1, 1, 1, 1, 1, 1]]) (t' := [(7, .sc (.bool (mods_Same a b))), (8, .sl 40 (List.map Rule.av x.1) false), (9, .sc (.int .i64 x.2)), (10, .sl 40 (List.map Rule.av x1.1) false), (11, .sc (.int .i64 x1.2))]) (h' := [.box 30 (Mod.ch a), .box 30 (Mod.ch b)]) (by kernel_rfl) ?_
      refine AR.reg hm podestalaw07_ModsSame_k6 (by kernel_rfl) ?_
      refine DK.seg hG 3 [8, 9, 10, 11, 60] (t' := [(8, .sl 40 (List.map Rule.av x.1) false), (9, .sc (.int .i64 x.2)), (10, .sl 40 (List.map Rule.av x1.1) false), (11, .sc (.int .i64 x1.2)), (60, .sc (.bool (!(mods_Same a b))))]) (h' := [.box 30 (Mod.ch a), .box 30 (Mod.ch b)]) (by kernel_rfl) rfl ?_
      refine DK.mux 60 (!(mods_Same a b)) (j := 12) (h' := [.box 30 (Mod.ch a), .box 30 (Mod.ch b)]) (by kernel_rfl) (fun z => [(69, .sc (.bool (z || ((x.2 == x1.2) && (zipAll podestaref04_Equal x.1 x1.1)))))]) ?J7 (fun hb J => ?ht7) (fun hb J => ?hf7)
      case ht7 =>
        exact DK.seg hG 9 [69] (by kernel_rfl) rfl J
      case hf7 =>
        refine DK.seg hG 4 [8, 10, 60, 64] (t' := [(8, .sl 40 (List.map Rule.av x.1) false), (10, .sl 40 (List.map Rule.av x1.1) false), (60, .sc (.bool false)), (64, .sc (.bool (x.2 == x1.2)))]) (h' := [.box 30 (Mod.ch a), .box 30 (Mod.ch b)]) (by kernel_rfl) rfl ?_
        refine DK.mux 64 (x.2 == x1.2) (j := 11) (h' := [.box 30 (Mod.ch a), .box 30 (Mod.ch b)]) (by kernel_rfl) (fun z => [(60, .sc (.bool false)), (68, .sc (.bool (z && (zipAll podestaref04_Equal x.1 x1.1))))]) ?J8 (fun hb J => ?ht8) (fun hb J => ?hf8)
        case ht8 =>
          refine DK.seg hG 2 [60, 64, 65, 66] (t' := [(60, .sc (.bool false)), (64, .sc (.bool true)), (65, .sl 40 (List.map Rule.av x.1) false), (66, .sl 40 (List.map Rule.av x1.1) false)]) (h' := [.box 30 (Mod.ch a), .box 30 (Mod.ch b)]) (by kernel_rfl) rfl ?_
          refine DK.op' [60, 64, 67] (t' := [(60, .sc (.bool false)), (64, .sc (.bool true)), (67, .sc (.bool (zipAll podestaref04_Equal x.1 x1.1)))]) (h' := [.box 30 (Mod.ch a), .box 30 (Mod.ch b)]) (LSpec.callP' (podestaref04_Same_ok x.1 x1.1 false false) (by kernel_rfl)) (by kernel_rfl) rfl (by kernel_rfl) rfl ?_
          exact DK.seg hG 1 [60, 68] (by kernel_rfl) rfl J
        case hf8 =>
          exact DK.seg hG 4 [60, 68] (by kernel_rfl) rfl J
        exact DK.seg hG 1 [69] (by kernel_rfl) rfl J
      refine DK.seg hG 1 [6] (t' := [(6, .sc (.bool ((!(mods_Same a b)) || ((x.2 == x1.2) && (zipAll podestaref04_Equal x.1 x1.1)))))]) (h' := [.box 30 (Mod.ch a), .box 30 (Mod.ch b)]) (by kernel_rfl) rfl ?_
      refine DK.done (by kernel_rfl) (by kernel_rfl) ?_
      obtain rfl := Option.some.inj H
      exact AR.ret0 (fn := Try.f10) hG Try.func10 (by kernel_rfl) hc0 (r0 := .sc (.bool ((!(mods_Same a b)) || ((x.2 == x1.2) && (zipAll podestaref04_Equal x.1 x1.1))))) (by kernel_rfl) (WkV.refl _)

/-! ### podestalaw07.ModsGone: function 9 -/
noncomputable def podestalaw07_ModsGone_F : Go.Sh.Fn := ⟨9, bodyOf Try.f9, 56⟩
def podestalaw07_ModsGone_k1 : List Kd := [.pure, .pure]
def podestalaw07_ModsGone_k3 : List Kd := [.pure, .pure]
def podestalaw07_ModsGone_k4 : List Kd := [.pure, .pure, .pure, .read, .pure, .pure, .pure, .pure, .pure, .pure, .pure, .pure, .read, .pure, .pure, .pure, .pure, .pure, .pure, .pure, .pure]
def podestalaw07_ModsGone_k2 : List Kd := [.pure, .read, .pure, .pure, .pure, .pure, .pure, .pure]
def podestalaw07_ModsGone_k0 : List Kd := [.pure, .pure, .pure, .pure, .pure, .read, .pure, .pure, .pure, .pure, .pure, .read, .pure, .pure, .pure, .read, .pure, .pure, .pure]
def podestalaw07_ModsGone_raw (l : List Rule) (m1 : Mod) : Option (Bool) :=
  (bif (((decide ((((List.map Rule.av l).length : Nat) : Int) > 40)) || (decide ((((List.map Act.av m1.Acts).length : Nat) : Int) > 20))) || ((m1.Kind != 3) && (m1.Kind != 5))) then
    some true
  else
    (applyO l m1 0).bind fun x =>
    (bif (x.2 != 0) then
      some true
    else
      some (((((List.map (intA .i64) (touchedL m1 x.1 0)).length : Nat) : Int) == 0) && ((IntKind.i64.wrap ((((List.map Rule.av x.1).length : Nat) : Int) + (((List.map (intA .i64) (touchedL m1 l 0)).length : Nat) : Int))) == (((List.map Rule.av l).length : Nat) : Int)))))
theorem podestalaw07_ModsGone_walk (l : List Rule) (m1 : Mod) (f_l : Bool) (r : Bool) (H : podestalaw07_ModsGone_raw l m1 = some r) :
    ACalls Try.prog tab.S 9 [.sl 40 (List.map Rule.av l) f_l, Mod.av m1] [] (.sc (.bool r)) [] := by
  have hG := tab_ok
  have hm := mixed
  refine ACalls.of_AR (G := tab) podestalaw07_ModsGone_F (fn := Try.f9) Try.func9 (by kernel_rfl) (by kernel_rfl) (by kernel_rfl) (Nat.le_of_ble_eq_true (by kernel_rfl)) ?_
  intro c0 hc0
  replace hc0 : c0.m.length = 0 := hc0
  rw [podestalaw07_ModsGone_raw] at H
  refine AR.seg hG hm 4 [0, 3] (k' := [.code [1, 0, 0], .code [1, 0, 1], .code [1, 1]]) (t' := [(0, .sl 40 (List.map Rule.av l) f_l), (3, .ptr 0 0 none)]) (h' := [.box 30 (Mod.ch m1)]) (by kernel_rfl) ?_
  refine AR.reg hm podestalaw07_ModsGone_k0 (by kernel_rfl) ?_
  refine DK.seg hG 4 [0, 3, 10] (t' := [(0, .sl 40 (List.map Rule.av l) f_l), (3, .ptr 0 0 none), (10, .sc (.bool (decide ((((List.map Rule.av l).length : Nat) : Int) > 40))))]) (h' := [.box 30 (Mod.ch m1)]) (by kernel_rfl) rfl ?_
  refine DK.mux 10 (decide ((((List.map Rule.av l).length : Nat) : Int) > 40)) (j := 9) (h' := [.box 30 (Mod.ch m1)]) (by kernel_rfl) (fun z => [(0, .sl 40 (List.map Rule.av l) f_l), (3, .ptr 0 0 none), (15, .sc (.bool (z || (decide ((((List.map Act.av m1.Acts).length : Nat) : Int) > 20)))))]) ?J1 (fun hb J => ?ht1) (fun hb J => ?hf1)
  case ht1 =>
    exact DK.seg hG 5 [0, 3, 15] (by kernel_rfl) rfl J
  case hf1 =>
    exact DK.seg hG 5 [0, 3, 15] (by kernel_rfl) rfl J
  refine DK.seg hG 1 [0, 3, 16] (t' := [(0, .sl 40 (List.map Rule.av l) f_l), (3, .ptr 0 0 none), (16, .sc (.bool ((decide ((((List.map Rule.av l).length : Nat) : Int) > 40)) || (decide ((((List.map Act.av m1.Acts).length : Nat) : Int) > 20)))))]) (h' := [.box 30 (Mod.ch m1)]) (by kernel_rfl) rfl ?_
  refine DK.mux 16 ((decide ((((List.map Rule.av l).length : Nat) : Int) > 40)) || (decide ((((List.map Act.av m1.Acts).length : Nat) : Int) > 20))) (j := 19) (h' := [.box 30 (Mod.ch m1)]) (by kernel_rfl) (fun z => [(0, .sl 40 (List.map Rule.av l) f_l), (3, .ptr 0 0 none), (25, .sc (.bool (z || ((m1.Kind != 3) && (m1.Kind != 5)))))]) ?J3 (fun hb J => ?ht3) (fun hb J => ?hf3)
  case ht3 =>
    exact DK.seg hG 9 [0, 3, 25] (by kernel_rfl) rfl J
  case hf3 =>
    refine DK.seg hG 4 [0, 3, 16, 20] (t' := [(0, .sl 40 (List.map Rule.av l) f_l), (3, .ptr 0 0 none), (16, .sc (.bool false)), (20, .sc (.bool (m1.Kind != 3)))]) (h' := [.box 30 (Mod.ch m1)]) (by kernel_rfl) rfl ?_
    refine DK.mux 20 (m1.Kind != 3) (j := 18) (h' := [.box 30 (Mod.ch m1)]) (by kernel_rfl) (fun z => [(0, .sl 40 (List.map Rule.av l) f_l), (3, .ptr 0 0 none), (16, .sc (.bool false)), (24, .sc (.bool (z && (m1.Kind != 5))))]) ?J4 (fun hb J => ?ht4) (fun hb J => ?hf4)
    case ht4 =>
      exact DK.seg hG 4 [0, 3, 16, 24] (by kernel_rfl) rfl J
    case hf4 =>
      exact DK.seg hG 4 [0, 3, 16, 24] (by kernel_rfl) rfl J
    exact DK.seg hG 1 [0, 3, 25] (by kernel_rfl) rfl J
  refine DK.done (by kernel_rfl) (by kernel_rfl) ?_
  refine AR.cond (.tmp 25) (((decide ((((List.map Rule.av l).length : Nat) : Int) > 40)) || (decide ((((List.map Act.av m1.Acts).length : Nat) : Int) > 20))) || ((m1.Kind != 3) && (m1.Kind != 5))) (by kernel_rfl) (by kernel_rfl) (fun hb => ?ht5) (fun hb => ?hf5)
  case ht5 =>
    replace H := cond_t hb H
    refine AR.seg hG hm 1 [] (k' := [.code [1, 0, 1, 0, 0], .code [1, 0, 1, 0, 1], .code [1, 1]]) (t' := []) (h' := [.box 30 (Mod.ch m1)]) (by kernel_rfl) ?_
    refine AR.reg hm podestalaw07_ModsGone_k1 (by kernel_rfl) ?_
    refine DK.op' [26] (t' := [(26, .sc (.bool true))]) (h' := [.box 30 (Mod.ch m1)]) (LSpec.callP' (podestalaw07_answers_ok) (by kernel_rfl)) (by kernel_rfl) rfl (by kernel_rfl) rfl ?_
    refine DK.seg hG 1 [4] (t' := [(4, .sc (.bool true))]) (h' := [.box 30 (Mod.ch m1)]) (by kernel_rfl) rfl ?_
    refine DK.done (by kernel_rfl) (by kernel_rfl) ?_
    obtain rfl := Option.some.inj H
    exact AR.ret0 (fn := Try.f9) hG Try.func9 (by kernel_rfl) hc0 (r0 := .sc (.bool true)) (by kernel_rfl) (WkV.refl _)
  case hf5 =>
    replace H := cond_f hb H
    refine AR.seg hG hm 2 [0, 3] (k' := [.code [1, 1, 0], .code [1, 1, 1]]) (t' := [(0, .sl 40 (List.map Rule.av l) f_l), (3, .ptr 0 0 none)]) (h' := [.box 30 (Mod.ch m1)]) (by kernel_rfl) ?_
    refine AR.reg hm podestalaw07_ModsGone_k2 (by kernel_rfl) ?_
    refine DK.seg hG 2 [0, 3, 28, 29] (t' := [(0, .sl 40 (List.map Rule.av l) f_l), (3, .ptr 0 0 none), (28, .sl 40 (List.map Rule.av l) f_l), (29, Mod.av m1)]) (h' := [.box 30 (Mod.ch m1)]) (by kernel_rfl) rfl ?_
    obtain ⟨x, hv, H⟩ := Option.bind_eq_some_iff.1 H
    refine DK.op' [0, 3, 30] (t' := [(0, .sl 40 (List.map Rule.av l) f_l), (3, .ptr 0 0 none), (30, .tup [.sl 40 (List.map Rule.av x.1) false, .sc (.int .i64 x.2)])]) (h' := [.box 30 (Mod.ch m1)]) (LSpec.callP' (mods_Apply_ok l m1 0 f_l x hv) (by kernel_rfl)) (by kernel_rfl) rfl (by kernel_rfl) rfl ?_
    refine DK.seg hG 5 [0, 3, 5, 6] (t' := [(0, .sl 40 (List.map Rule.av l) f_l), (3, .ptr 0 0 none), (5, .sl 40 (List.map Rule.av x.1) false), (6, .sc (.int .i64 x.2))]) (h' := [.box 30 (Mod.ch m1)]) (by kernel_rfl) rfl ?_
    refine DK.done (by kernel_rfl) (by kernel_rfl) ?_
    refine AR.seg hG hm 3 [0, 3, 5, 34] (k' := [.code [1, 1, 1, 0, 1], .code [1, 1, 1, 1]]) (t' := [(0, .sl 40 (List.map Rule.av l) f_l), (3, .ptr 0 0 none), (5, .sl 40 (List.map Rule.av x.1) false), (34, .sc (.bool (x.2 != 0)))]) (h' := [.box 30 (Mod.ch m1)]) (by kernel_rfl) ?_
    refine AR.cond (.tmp 34) (x.2 != 0) (by kernel_rfl) (by kernel_rfl) (fun hb => ?ht6) (fun hb => ?hf6)
    case ht6 =>
      replace H := cond_t hb H
      refine AR.seg hG hm 1 [] (k' := [.code [1, 1, 1, 0, 1, 0, 0], .code [1, 1, 1, 0, 1, 0, 1], .code [1, 1, 1, 1]]) (t' := []) (h' := [.box 30 (Mod.ch m1)]) (by kernel_rfl) ?_
      refine AR.reg hm podestalaw07_ModsGone_k3 (by kernel_rfl) ?_
      refine DK.op' [35] (t' := [(35, .sc (.bool true))]) (h' := [.box 30 (Mod.ch m1)]) (LSpec.callP' (podestalaw07_answers_ok) (by kernel_rfl)) (by kernel_rfl) rfl (by kernel_rfl) rfl ?_
      refine DK.seg hG 1 [4] (t' := [(4, .sc (.bool true))]) (h' := [.box 30 (Mod.ch m1)]) (by kernel_rfl) rfl ?_
      refine DK.done (by kernel_rfl) (by kernel_rfl) ?_
      obtain rfl := Option.some.inj H
      exact AR.ret0 (fn := Try.f9) hG Try.func9 (by kernel_rfl) hc0 (r0 := .sc (.bool true)) (by kernel_rfl) (WkV.refl _)
    case hf6 =>
      replace H := cond_f hb H
      refine AR.seg hG hm 2 [0, 3, 5] (k' := [.code [1, 1, 1, 1, 0], .code [1, 1, 1, 1, 1]]) (t' := [(0, .sl 40 (List.map Rule.av l) f_l), (3, .ptr 0 0 none), (5, .sl 40 (List.map Rule.av x.1) false)]) (h' := [.box 30 (Mod.ch m1)]) (by kernel_rfl) ?_
      refine AR.reg hm podestalaw07_ModsGone_k4 (by kernel_rfl) ?_
      refine DK.op' [0, 3, 5, 36] (t' := [(0, .sl 40 (List.map Rule.av l) f_l), (3, .ptr 0 0 none), (5, .sl 40 (List.map Rule.av x.1) false), (36, .sc (.bool true))]) (h' := [.box 30 (Mod.ch m1)]) (LSpec.callP' (podestalaw07_answers_ok) (by kernel_rfl)) (by kernel_rfl) rfl (by kernel_rfl) rfl ?_
      refine DK.seg hG 3 [0, 3, 5, 37, 38, 39] (t' := [(0, .sl 40 (List.map Rule.av l) f_l), (3, .ptr 0 0 none), (5, .sl 40 (List.map Rule.av x.1) false), (37, .sc (.bool true)), (38, .sl 40 (List.map Rule.av x.1) false), (39, Mod.av m1)]) (h' := [.box 30 (Mod.ch m1)]) (by kernel_rfl) rfl ?_
      refine DK.op' [0, 3, 5, 37, 40] (t' := [(0, .sl 40 (List.map Rule.av l) f_l), (3, .ptr 0 0 none), (5, .sl 40 (List.map Rule.av x.1) false), (37, .sc (.bool true)), (40, .sl 3 (List.map (intA .i64) (touchedL m1 x.1 0)) false)]) (h' := [.box 30 (Mod.ch m1)]) (LSpec.callP' (mods_Touched_ok x.1 m1 false) (by kernel_rfl)) (by kernel_rfl) rfl (by kernel_rfl) rfl ?_
      refine DK.seg hG 4 [0, 3, 5, 44] (t' := [(0, .sl 40 (List.map Rule.av l) f_l), (3, .ptr 0 0 none), (5, .sl 40 (List.map Rule.av x.1) false), (44, .sc (.bool ((((List.map (intA .i64) (touchedL m1 x.1 0)).length : Nat) : Int) == 0)))]) (h' := [.box 30 (Mod.ch m1)]) (by kernel_rfl) rfl ?_
      refine DK.mux 44 ((((List.map (intA .i64) (touchedL m1 x.1 0)).length : Nat) : Int) == 0) (j := 20) (h' := [.box 30 (Mod.ch m1)]) (by kernel_rfl) (fun z => [(55, .sc (.bool (z && ((IntKind.i64.wrap ((((List.map Rule.av x.1).length : Nat) : Int) + (((List.map (intA .i64) (touchedL m1 l 0)).length : Nat) : Int))) == (((List.map Rule.av l).length : Nat) : Int)))))]) ?J7 (fun hb J => ?ht7) (fun hb J => ?hf7)
      case ht7 =>
        refine DK.seg hG 4 [0, 44, 46, 47, 48] (t' := [(0, .sl 40 (List.map Rule.av l) f_l), (44, .sc (.bool true)), (46, .sc (.int .i64 (((List.map Rule.av x.1).length : Nat) : Int))), (47, .sl 40 (List.map Rule.av l) f_l), (48, Mod.av m1)]) (h' := [.box 30 (Mod.ch m1)]) (by kernel_rfl) rfl ?_
        refine DK.op' [0, 44, 46, 49] (t' := [(0, .sl 40 (List.map Rule.av l) f_l), (44, .sc (.bool true)), (46, .sc (.int .i64 (((List.map Rule.av x.1).length : Nat) : Int))), (49, .sl 3 (List.map (intA .i64) (touchedL m1 l 0)) false)]) (h' := [.box 30 (Mod.ch m1)]) (LSpec.callP' (mods_Touched_ok l m1 f_l) (by kernel_rfl)) (by kernel_rfl) rfl (by kernel_rfl) rfl ?_
        exact DK.seg hG 6 [55] (by kernel_rfl) rfl J
      case hf7 =>
        exact DK.seg hG 11 [55] (by kernel_rfl) rfl J
      refine DK.seg hG 1 [4] (t' := [(4, .sc (.bool (((((List.map (intA .i64) (touchedL m1 x.1 0)).length : Nat) : Int) == 0) && ((IntKind.i64.wrap ((((List.map Rule.av x.1).length : Nat) : Int) + (((List.map (intA .i64) (touchedL m1 l 0)).length : Nat) : Int))) == (((List.map Rule.av l).length : Nat) : Int)))))]) (h' := [.box 30 (Mod.ch m1)]) (by kernel_rfl) rfl ?_
      refine DK.done (by kernel_rfl) (by kernel_rfl) ?_
      obtain rfl := Option.some.inj H
      exact AR.ret0 (fn := Try.f9) hG Try.func9 (by kernel_rfl) hc0 (r0 := .sc (.bool (((((List.map (intA .i64) (touchedL m1 x.1 0)).length : Nat) : Int) == 0) && ((IntKind.i64.wrap ((((List.map Rule.av x.1).length : Nat) : Int) + (((List.map (intA .i64) (touchedL m1 l 0)).length : Nat) : Int))) == (((List.map Rule.av l).length : Nat) : Int))))) (by kernel_rfl) (WkV.refl _)

/-! ### podestalaw07.ModsTwice: function 5 -/
noncomputable def podestalaw07_ModsTwice_F : Go.Sh.Fn := ⟨5, bodyOf Try.f5, 48⟩
def podestalaw07_ModsTwice_k1 : List Kd := [.pure, .pure]
def podestalaw07_ModsTwice_k3 : List Kd := [.pure, .pure]
def podestalaw07_ModsTwice_k5 : List Kd := [.pure, .pure, .pure, .pure, .pure, .pure, .pure, .pure, .pure, .pure, .pure]
def podestalaw07_ModsTwice_k4 : List Kd := [.pure, .read, .pure, .pure, .pure, .pure, .pure, .pure, .pure]
def podestalaw07_ModsTwice_k2 : List Kd := [.pure, .read, .pure, .pure, .pure, .pure, .pure, .pure, .pure]
def podestalaw07_ModsTwice_k0 : List Kd := [.pure, .pure, .pure, .pure, .pure, .read, .pure, .pure, .pure]
def podestalaw07_ModsTwice_raw (l : List Rule) (m1 : Mod) (room : Int) : Option (Bool) :=
  (bif ((decide ((((List.map Rule.av l).length : Nat) : Int) > 50)) || (decide ((((List.map Act.av m1.Acts).length : Nat) : Int) > 50))) then
    some true
  else
    (applyO l m1 room).bind fun x =>
    (bif (x.2 != 0) then
      some true
    else
      (applyO x.1 m1 room).bind fun x1 =>
      some ((x1.2 == 0) && (zipAll podestaref04_Equal x.1 x1.1))))
theorem podestalaw07_ModsTwice_walk (l : List Rule) (m1 : Mod) (room : Int) (f_l : Bool) (r : Bool) (H : podestalaw07_ModsTwice_raw l m1 room = some r) :
    ACalls Try.prog tab.S 5 [.sl 40 (List.map Rule.av l) f_l, Mod.av m1, .sc (.int .i64 room)] [] (.sc (.bool r)) [] := by
  have hG := tab_ok
  have hm := mixed
  refine ACalls.of_AR (G := tab) podestalaw07_ModsTwice_F (fn := Try.f5) Try.func5 (by kernel_rfl) (by kernel_rfl) (by kernel_rfl) (Nat.le_of_ble_eq_true (by kernel_rfl)) ?_
  intro c0 hc0
  replace hc0 : c0.m.length = 0 := hc0
  rw [podestalaw07_ModsTwice_raw] at H
  refine AR.seg hG hm 4 [0, 2, 4] (k' := [.code [1, 0, 0], .code [1, 0, 1], .code [1, 1]]) (t' := [(0, .sl 40 (List.map Rule.av l) f_l), (2, .sc (.int .i64 room)), (4, .ptr 0 0 none)]) (h' := [.box 30 (Mod.ch m1)]) (by kernel_rfl) ?_
  refine AR.reg hm podestalaw07_ModsTwice_k0 (by kernel_rfl) ?_
  refine DK.seg hG 4 [0, 2, 4, 14] (t' := [(0, .sl 40 (List.map Rule.av l) f_l), (2, .sc (.int .i64 room)), (4, .ptr 0 0 none), (14, .sc (.bool (decide ((((List.map Rule.av l).length : Nat) : Int) > 50))))]) (h' := [.box 30 (Mod.ch m1)]) (by kernel_rfl) rfl ?_
  refine DK.mux 14 (decide ((((List.map Rule.av l).length : Nat) : Int) > 50)) (j := 9) (h' := [.box 30 (Mod.ch m1)]) (by kernel_rfl) (fun z => [(0, .sl 40 (List.map Rule.av l) f_l), (2, .sc (.int .i64 room)), (4, .ptr 0 0 none), (19, .sc (.bool (z || (decide ((((List.map Act.av m1.Acts).length : Nat) : Int) > 50)))))]) ?J1 (fun hb J => ?ht1) (fun hb J => ?hf1)
  case ht1 =>
    exact DK.seg hG 5 [0, 2, 4, 19] (by kernel_rfl) rfl J
  case hf1 =>
    exact DK.seg hG 5 [0, 2, 4, 19] (by kernel_rfl) rfl J
  refine DK.done (by kernel_rfl) (by kernel_rfl) ?_
  refine AR.cond (.tmp 19) ((decide ((((List.map Rule.av l).length : Nat) : Int) > 50)) || (decide ((((List.map Act.av m1.Acts).length : Nat) : Int) > 50))) (by kernel_rfl) (by kernel_rfl) (fun hb => ?ht2) (fun hb => ?hf2)
  case ht2 =>
    replace H := cond_t hb H
    refine AR.seg hG hm 1 [] (k' := [.code [1, 0, 1, 0, 0], .code [1, 0, 1, 0, 1], .code [1, 1]]) (t' := []) (h' := [.box 30 (Mod.ch m1)]) (by kernel_rfl) ?_
    refine AR.reg hm podestalaw07_ModsTwice_k1 (by kernel_rfl) ?_
    refine DK.op' [20] (t' := [(20, .sc (.bool true))]) (h' := [.box 30 (Mod.ch m1)]) (LSpec.callP' (podestalaw07_answers_ok) (by kernel_rfl)) (by kernel_rfl) rfl (by kernel_rfl) rfl ?_
    refine DK.seg hG 1 [6] (t' := [(6, .sc (.bool true))]) (h' := [.box 30 (Mod.ch m1)]) (by kernel_rfl) rfl ?_
    refine DK.done (by kernel_rfl) (by kernel_rfl) ?_
    obtain rfl := Option.some.inj H
    exact AR.ret0 (fn := Try.f5) hG Try.func5 (by kernel_rfl) hc0 (r0 := .sc (.bool true)) (by kernel_rfl) (WkV.refl _)
  case hf2 =>
    replace H := cond_f hb H
    refine AR.seg hG hm 2 [0, 2, 4] (k' := [.code [1, 1, 0], .code [1, 1, 1]]) (t' := [(0, .sl 40 (List.map Rule.av l) f_l), (2, .sc (.int .i64 room)), (4, .ptr 0 0 none)]) (h' := [.box 30 (Mod.ch m1)]) (by kernel_rfl) ?_
    refine AR.reg hm podestalaw07_ModsTwice_k2 (by kernel_rfl) ?_
    refine DK.seg hG 3 [2, 4, 22, 23, 24] (t' := [(2, .sc (.int .i64 room)), (4, .ptr 0 0 none), (22, .sl 40 (List.map Rule.av l) f_l), (23, Mod.av m1), (24, .sc (.int .i64 room))]) (h' := [.box 30 (Mod.ch m1)]) (by kernel_rfl) rfl ?_
    obtain ⟨x, hv, H⟩ := Option.bind_eq_some_iff.1 H
    refine DK.op' [2, 4, 25] (t' := [(2, .sc (.int .i64 room)), (4, .ptr 0 0 none), (25, .tup [.sl 40 (List.map Rule.av x.1) false, .sc (.int .i64 x.2)])]) (h' := [.box 30 (Mod.ch m1)]) (LSpec.callP' (mods_Apply_ok l m1 room f_l x hv) (by kernel_rfl)) (by kernel_rfl) rfl (by kernel_rfl) rfl ?_
    refine DK.seg hG 5 [2, 4, 7, 8] (t' := [(2, .sc (.int .i64 room)), (4, .ptr 0 0 none), (7, .sl 40 (List.map Rule.av x.1) false), (8, .sc (.int .i64 x.2))]) (h' := [.box 30 (Mod.ch m1)]) (by kernel_rfl) rfl ?_
    refine DK.done (by kernel_rfl) (by kernel_rfl) ?_
    refine AR.seg hG hm 3 [2, 4, 7, 29] (k' := [.code [1, 1, 1, 0, 1], .code [1, 1, 1, 1]]) (t' := [(2, .sc (.int .i64 room)), (4, .ptr 0 0 none), (7, .sl 40 (List.map Rule.av x.1) false), (29, .sc (.bool (x.2 != 0)))]) (h' := [.box 30 (Mod.ch m1)]) (by kernel_rfl) ?_
    refine AR.cond (.tmp 29) (x.2 != 0) (by kernel_rfl) (by kernel_rfl) (fun hb => ?ht3) (fun hb => ?hf3)
    case ht3 =>
      replace H := cond_t hb H
      refine AR.seg hG hm 1 [] (k' := [.code [1, 1, 1, 0, 1, 0, 0], .code [1, 1, 1, 0, 1, 0, 1], .code [1, 1, 1, 1]]) (t' := []) (h' := [.box 30 (Mod.ch m1)]) (by kernel_rfl) ?_
      refine AR.reg hm podestalaw07_ModsTwice_k3 (by kernel_rfl) ?_
      refine DK.op' [30] (t' := [(30, .sc (.bool true))]) (h' := [.box 30 (Mod.ch m1)]) (LSpec.callP' (podestalaw07_answers_ok) (by kernel_rfl)) (by kernel_rfl) rfl (by kernel_rfl) rfl ?_
      refine DK.seg hG 1 [6] (t' := [(6, .sc (.bool true))]) (h' := [.box 30 (Mod.ch m1)]) (by kernel_rfl) rfl ?_
      refine DK.done (by kernel_rfl) (by kernel_rfl) ?_
      obtain rfl := Option.some.inj H
      exact AR.ret0 (fn := Try.f5) hG Try.func5 (by kernel_rfl) hc0 (r0 := .sc (.bool true)) (by kernel_rfl) (WkV.refl _)
    case hf3 =>
      replace H := cond_f hb H
      refine AR.seg hG hm 2 [2, 4, 7] (k' := [.code [1, 1, 1, 1, 0], .code [1, 1, 1, 1, 1]]) (t' := [(2, .sc (.int .i64 room)), (4, .ptr 0 0 none), (7, .sl 40 (List.map Rule.av x.1) false)]) (h' := [.box 30 (Mod.ch m1)]) (by kernel_rfl) ?_
      refine AR.reg hm podestalaw07_ModsTwice_k4 (by kernel_rfl) ?_
      refine DK.seg hG 3 [7, 32, 33, 34] (t' := [(7, .sl 40 (List.map Rule.av x.1) false), (32, .sl 40 (List.map Rule.av x.1) false), (33, Mod.av m1), (34, .sc (.int .i64 room))]) (h' := [.box 30 (Mod.ch m1)]) (by kernel_rfl) rfl ?_
      obtain ⟨x1, hv, H⟩ := Option.bind_eq_some_iff.1 H
      refine DK.op' [7, 35] (t' := [(7, .sl 40 (List.map Rule.av x.1) false), (35, .tup [.sl 40 (List.map Rule.av x1.1) false, .sc (.int .i64 x1.2)])]) (h' := [.box 30 (Mod.ch m1)]) (LSpec.callP' (mods_Apply_ok x.1 m1 room false x1 hv) (by kernel_rfl)) (by kernel_rfl) rfl (by kernel_rfl) rfl ?_
      refine DK.seg hG 5 [7, 9, 10] (t' := [(7, .sl 40 (List.map Rule.av x.1) false), (9, .sl 40 (List.map Rule.av x1.1) false), (10, .sc (.int .i64 x1.2))]) (h' := [.box 30 (Mod.ch m1)]) (by kernel_rfl) rfl ?_
      refine DK.done (by kernel_rfl) (by kernel_rfl) ?_
      refine AR.seg hG hm 1 [7, 9, 10] (k' := [.code [1, 1, 1, 1, 1, 0], .code [1, 1, 1, 1, 1, 1]]) (t' := [(7, .sl 40 (List.map Rule.av x.1) false), (9, .sl 40 (List.map Rule.av x1.1) false), (10, .sc (.int .i64 x1.2))]) (h' := [.box 30 (Mod.ch m1)]) (by kernel_rfl) ?_
      refine AR.reg hm podestalaw07_ModsTwice_k5 (by kernel_rfl) ?_
      refine DK.op' [7, 9, 10, 38] (t' := [(7, .sl 40 (List.map Rule.av x.1) false), (9, .sl 40 (List.map Rule.av x1.1) false), (10, .sc (.int .i64 x1.2)), (38, .sc (.bool true))]) (h' := [.box 30 (Mod.ch m1)]) (LSpec.callP' (podestalaw07_answers_ok) (by kernel_rfl)) (by kernel_rfl) rfl (by kernel_rfl) rfl ?_
      refine DK.seg hG 5 [7, 9, 43] (t' := [(7, .sl 40 (List.map Rule.av x.1) false), (9, .sl 40 (List.map Rule.av x1.1) false), (43, .sc (.bool (x1.2 == 0)))]) (h' := [.box 30 (Mod.ch m1)]) (by kernel_rfl) rfl ?_
      refine DK.mux 43 (x1.2 == 0) (j := 10) (h' := [.box 30 (Mod.ch m1)]) (by kernel_rfl) (fun z => [(47, .sc (.bool (z && (zipAll podestaref04_Equal x.1 x1.1))))]) ?J4 (fun hb J => ?ht4) (fun hb J => ?hf4)
      case ht4 =>
        refine DK.seg hG 2 [43, 44, 45] (t' := [(43, .sc (.bool true)), (44, .sl 40 (List.map Rule.av x.1) false), (45, .sl 40 (List.map Rule.av x1.1) false)]) (h' := [.box 30 (Mod.ch m1)]) (by kernel_rfl) rfl ?_
        refine DK.op' [43, 46] (t' := [(43, .sc (.bool true)), (46, .sc (.bool (zipAll podestaref04_Equal x.1 x1.1)))]) (h' := [.box 30 (Mod.ch m1)]) (LSpec.callP' (podestaref04_Same_ok x.1 x1.1 false false) (by kernel_rfl)) (by kernel_rfl) rfl (by kernel_rfl) rfl ?_
        exact DK.seg hG 1 [47] (by kernel_rfl) rfl J
      case hf4 =>
        exact DK.seg hG 4 [47] (by kernel_rfl) rfl J
      refine DK.seg hG 1 [6] (t' := [(6, .sc (.bool ((x1.2 == 0) && (zipAll podestaref04_Equal x.1 x1.1))))]) (h' := [.box 30 (Mod.ch m1)]) (by kernel_rfl) rfl ?_
      refine DK.done (by kernel_rfl) (by kernel_rfl) ?_
      obtain rfl := Option.some.inj H
      exact AR.ret0 (fn := Try.f5) hG Try.func5 (by kernel_rfl) hc0 (r0 := .sc (.bool ((x1.2 == 0) && (zipAll podestaref04_Equal x.1 x1.1)))) (by kernel_rfl) (WkV.refl _)

end Go.Proofs.Ytockmihfoppkpaa

set_option linter.unusedVariables false
set_option linter.unusedSimpArgs false
set_option maxRecDepth 100000
set_option maxHeartbeats 4000000
namespace Go.Proofs.Ytockmihfoppkpaa
open Go.Sh
theorem befO_iff (p : Option Rule) (x : Rule) : befO p x = true ↔ ∀ q, p = some q → RLt q x := by
  cases p with
  | none => simp [befO]
  | some q => simp [befO, Before_key, RLt]
theorem tableF_spec : ∀ (l : List Rule) (p : Option Rule), tableF p l = true ↔ (∀ y ∈ l, rule_Sound y = true) ∧ Srt l ∧ ∀ q, p = some q → ∀ y ∈ l, RLt q y
  | [], p => by
      rw [tableF]
      exact ⟨fun _ => ⟨by simp, List.Pairwise.nil, by simp⟩, fun _ => rfl⟩
  | x :: l, p => by
      rw [tableF_cons, Bool.and_eq_true, Bool.and_eq_true, tableF_spec l (some x), befO_iff]
      constructor
      · rintro ⟨⟨h1, h2⟩, h3, h4, h5⟩
        refine ⟨?_, List.pairwise_cons.2 ⟨h5 x rfl, h4⟩, ?_⟩
        · intro y hy
          rcases List.mem_cons.1 hy with rfl | hy
          · exact h1
          · exact h3 y hy
        · intro q hq y hy
          rcases List.mem_cons.1 hy with rfl | hy
          · exact h2 q hq
          · exact (h2 q hq).trans (h5 x rfl y hy)
      · rintro ⟨h1, h2, h3⟩
        obtain ⟨h4, h5⟩ := List.pairwise_cons.1 h2
        exact ⟨⟨h1 x (by simp), fun q hq => h3 q hq x (by simp)⟩, fun y hy => h1 y (by simp [hy]), h5, fun q hq y hy => by
          injection hq with hq
          subst hq
          exact h4 y hy⟩
theorem tableR_iff (l : List Rule) : tableR l = true ↔ (∀ y ∈ l, rule_Sound y = true) ∧ Srt l := by
  unfold tableR
  rw [tableF_spec]
  simp
theorem tableR_sort (l : List Rule) : tableR (sortR l) = true := (tableR_iff _).2 ⟨sortR_sound l, sortR_srt l⟩
theorem sort_again (l : List Rule) (r : Rule) : sortR (sortR (l ++ [r]) ++ [r]) = sortR (l ++ [r]) :=
  srt_uniq _ _ (sortR_srt _) (sortR_srt _) (fun k => by
    rw [sortR_look, sortR_look, last_append, last_look _ (sortR_srt _) (sortR_sound _), sortR_look, last_append]
    cases last [r] k <;> rfl)

theorem mod_acts (m : Mod) (h : mods_Sound m = true) : act_Sound m.Acts = true := by
  rw [mods_Sound] at h
  cases h2 : act_Sound m.Acts
  · rw [h2] at h
    simp at h
  · rfl
theorem rule_of_mod (m : Mod) (h : mods_Sound m = true) (hk : (m.Kind == 1) = true) : rule_Sound (mods_Rule m) = true := by
  rw [mods_Sound, hk] at h
  have e : ∀ a b, rule_span a b = mods_span a b := fun _ _ => rfl
  rw [rule_Sound]
  show (((((((cube_Sound m.Match) && (act_Sound m.Acts)) && (rule_span m.Prio 65535)) && (rule_span m.Idle 1048576)) && (rule_span m.Hard 1048576)) && (rule_span m.Owner 255)) && _) = true
  simp only [e]
  cases h1 : cube_Sound m.Match
  · rw [h1] at h; simp at h
  cases h2 : act_Sound m.Acts
  · rw [h2] at h; simp at h
  cases h3 : mods_span m.Prio 65535
  · rw [h3] at h; simp at h
  cases h4 : mods_span m.Owner 255
  · rw [h4] at h; simp at h
  rw [h1, h2, h3, h4] at h
  simp only [Bool.not_true, Bool.or_self, cond_false, cond_true, Bool.and_eq_true] at h
  rw [h.1, h.2]
  simp [mods_Rule]
theorem sound_acts (y : Rule) (a : List Act) (h : rule_Sound y = true) (ha : act_Sound a = true) : rule_Sound ({ y with Acts := a } : Rule) = true := by
  rw [rule_Sound] at h ⊢
  simp only [Bool.and_eq_true] at h ⊢
  obtain ⟨⟨⟨⟨⟨⟨h1, h2⟩, h3⟩, h4⟩, h5⟩, h6⟩, h7⟩ := h
  exact ⟨⟨⟨⟨⟨⟨h1, ha⟩, h3⟩, h4⟩, h5⟩, h6⟩, h7⟩
theorem stepM_some {m : Mod} {x y : Rule} (h : stepM m x = some y) : (mods_touches m x = false ∧ y = x) ∨ (mods_touches m x = true ∧ y = ({ x with Acts := m.Acts } : Rule)) := by
  unfold stepM at h
  cases ht : mods_touches m x
  · rw [ht] at h
    injection h with h
    exact .inl ⟨rfl, h.symm⟩
  · rw [ht] at h
    cases hk : (m.Kind == 3) || (m.Kind == 5)
    · rw [hk] at h
      injection h with h
      exact .inr ⟨rfl, h.symm⟩
    · rw [hk] at h; cases h
theorem stepM_key {m : Mod} {x y : Rule} (h : stepM m x = some y) : y.key = x.key := by
  rcases stepM_some h with ⟨_, rfl⟩ | ⟨_, rfl⟩ <;> rfl
theorem stepM_twice {m : Mod} {x y : Rule} (h : stepM m x = some y) : stepM m y = some y := by
  rcases stepM_some h with ⟨_, rfl⟩ | ⟨ht, rfl⟩
  · exact h
  · unfold stepM at h ⊢
    have e : mods_touches m ({ x with Acts := m.Acts } : Rule) = mods_touches m x := rfl
    rw [e, ht]
    rw [ht] at h
    cases hk : (m.Kind == 3) || (m.Kind == 5)
    · rfl
    · rw [hk] at h; cases h
theorem step_table (l : List Rule) (m : Mod) (hT : tableR l = true) (hS : mods_Sound m = true) : tableR (l.filterMap (stepM m)) = true := by
  obtain ⟨h1, h2⟩ := (tableR_iff l).1 hT
  refine (tableR_iff _).2 ⟨fun y hy => ?_, ?_⟩
  · obtain ⟨x, hx, hs⟩ := List.mem_filterMap.1 hy
    rcases stepM_some hs with ⟨_, rfl⟩ | ⟨_, rfl⟩
    · exact h1 _ hx
    · exact sound_acts x m.Acts (h1 x hx) (mod_acts m hS)
  · refine List.Pairwise.filterMap (stepM m) (fun a b hab c hc d hd => ?_) h2
    unfold RLt at *
    rw [stepM_key hc, stepM_key hd]
    exact hab
theorem filterMap_fix {α : Type} (f : α → Option α) : ∀ (l : List α), (∀ y ∈ l, f y = some y) → l.filterMap f = l
  | [], _ => rfl
  | x :: l, h => by
      rw [List.filterMap_cons, h x (by simp), filterMap_fix f l (fun y hy => h y (by simp [hy]))]
theorem add_twice (l : List Rule) (m : Mod) (room : Int) (hS : mods_Sound m = true) (hk : (m.Kind == 1) = true) (h0 : (addM l m room).2 = 0) :
    (addM l m room).1 = sortR (l ++ [mods_Rule m]) ∧ addM (sortR (l ++ [mods_Rule m])) m room = (sortR (l ++ [mods_Rule m]), 0) := by
  have hR := rule_of_mod m hS hk
  have hlook : look (sortR (l ++ [mods_Rule m])) (mods_Rule m).key = some (mods_Rule m) := by
    rw [sortR_look, last_append, last_cons, if_pos ⟨hR, rfl⟩]
    rfl
  have hfind : (sortR (l ++ [mods_Rule m])).find? (fun x => rule_Key x (mods_Rule m)) = some (mods_Rule m) := by
    have e : (fun x => rule_Key x (mods_Rule m)) = (fun x => decide (x.key = (mods_Rule m).key)) := funext fun x => Key_key x _
    rw [e]; exact hlook
  have hmem : ∀ y ∈ sortR (l ++ [mods_Rule m]), y ∈ l ∨ y = mods_Rule m := by
    intro y hy
    have h1 := look_mem (k := y.key) (x := y) (l := l ++ [mods_Rule m])
    have : ∀ (L out : List Rule), Srt out → ∀ y ∈ L.foldl putR out, y ∈ out ∨ y ∈ L := by
      intro L
      induction L with
      | nil => intro out _ y hy; exact .inl hy
      | cons x L ih =>
        intro out ho y hy
        rcases ih (putR out x) (putR_srt ho x) y hy with q | q
        · rcases putR_mem ho q with q | ⟨q, _⟩
          · exact .inl q
          · exact .inr (by simp [q])
        · exact .inr (by simp [q])
    rcases this (l ++ [mods_Rule m]) [] List.Pairwise.nil y hy with q | q
    · cases q
    · simpa using q
  have hmeet : (m.Check && l.any (fun x => mods_add_2 x (mods_Rule m))) = false → (m.Check && (sortR (l ++ [mods_Rule m])).any (fun x => mods_add_2 x (mods_Rule m))) = false := by
    intro h
    cases hc : m.Check
    · rfl
    · simp only [hc, Bool.true_and] at h ⊢
      rw [List.any_eq_false] at h ⊢
      intro y hy
      rcases hmem y hy with q | q
      · exact h y q
      · subst q
        rw [mods_add_2, Key_key]
        simp
  have hown : ((mods_Rule m).Owner != m.Owner) = false := by simp [mods_Rule]
  have key : (m.Check && l.any (fun x => mods_add_2 x (mods_Rule m))) = false → addM (sortR (l ++ [mods_Rule m])) m room = (sortR (l ++ [mods_Rule m]), 0) := by
    intro hc
    unfold addM
    rw [hfind]
    simp only [hown, hmeet hc, Bool.false_eq_true, if_false, sort_again]
  unfold addM at h0 ⊢
  cases hf : l.find? (fun x => rule_Key x (mods_Rule m)) with
  | some x =>
    rw [hf] at h0
    simp only at h0 ⊢
    cases ho : x.Owner != m.Owner
    · rw [ho] at h0
      cases hc : (m.Check && l.any (fun x => mods_add_2 x (mods_Rule m)))
      · refine ⟨rfl, ?_⟩
        have := key hc
        unfold addM at this
        exact this
      · rw [hc] at h0; cases h0
    · rw [ho] at h0; cases h0
  | none =>
    rw [hf] at h0
    simp only at h0 ⊢
    cases hc : (m.Check && l.any (fun x => mods_add_2 x (mods_Rule m)))
    · rw [hc] at h0
      simp only [Bool.false_eq_true, if_false] at h0 ⊢
      cases hr : decide ((l.length : Int) ≥ room)
      · refine ⟨rfl, ?_⟩
        have := key hc
        unfold addM at this
        exact this
      · rw [hr] at h0; cases h0
    · rw [hc] at h0; cases h0
theorem ModsTwice_true (l : List Rule) (m : Mod) (room : Int) (_ : ∀ y ∈ l, Rule.wf y) (_ : Mod.wf m) (_ : intW .i64 room) (_ : l.length * 272 ≤ 140737488355328) (_ : m.Acts.length * 32 ≤ 140737488355328) : podestalaw07_ModsTwice_raw l m room = some true := by
  rw [podestalaw07_ModsTwice_raw]
  simp only [List.length_map, ref_Same_eq]
  by_cases hl : l.length > 50
  · rw [decide_eq_true (show ((l.length : Nat) : Int) > 50 by omega)]; rfl
  rw [applyO_eq (by omega), Option.bind_some]
  cases (decide (((l.length : Nat) : Int) > 50)) || (decide (((m.Acts.length : Nat) : Int) > 50))
  rotate_left
  · rfl
  simp only [cond_false]
  have happ : ∀ a : List Rule, a.length ≤ 1000000 → applyO a m room = some (applyM a m room) := fun a h => applyO_eq h m room
  cases hT : tableR l
  · have e : applyM l m room = ([], 2) := by unfold applyM; rw [hT]; rfl
    rw [e]; rfl
  cases hS : mods_Sound m
  · have e : applyM l m room = ([], 2) := by unfold applyM; rw [hT, hS]; rfl
    rw [e]; rfl
  cases hk : m.Kind == 1
  · have e : applyM l m room = (l.filterMap (stepM m), 0) := by unfold applyM; rw [hT, hS, hk]; rfl
    rw [e]
    have hlen : (l.filterMap (stepM m)).length ≤ l.length := List.length_filterMap_le _ _
    simp only [bne_self_eq_false, cond_false]
    rw [happ _ (by omega), Option.bind_some]
    have e2 : applyM (l.filterMap (stepM m)) m room = (l.filterMap (stepM m), 0) := by
      unfold applyM
      rw [step_table l m hT hS, hS, hk, filterMap_fix (stepM m) (l.filterMap (stepM m)) (fun y hy => by
        obtain ⟨x, _, hx⟩ := List.mem_filterMap.1 hy
        exact stepM_twice hx)]
      rfl
    rw [e2]
    simp
  · have e : applyM l m room = addM l m room := by unfold applyM; rw [hT, hS, hk]; rfl
    rw [e]
    cases h0 : (addM l m room).2 != 0
    · have h0' : (addM l m room).2 = 0 := by simpa using h0
      obtain ⟨p1, p2⟩ := add_twice l m room hS hk h0'
      have hlen := sortR_len (l ++ [mods_Rule m])
      rw [List.length_append, List.length_cons, List.length_nil] at hlen
      simp only [cond_false]
      rw [p1, happ _ (by omega), Option.bind_some]
      have e2 : applyM (sortR (l ++ [mods_Rule m])) m room = (sortR (l ++ [mods_Rule m]), 0) := by
        unfold applyM
        rw [tableR_sort, hS, hk]
        exact p2
      rw [e2]
      simp
    · rfl

end Go.Proofs.Ytockmihfoppkpaa

set_option linter.unusedVariables false
set_option linter.unusedSimpArgs false
set_option maxRecDepth 100000
set_option maxHeartbeats 4000000
namespace Go.Proofs.Ytockmihfoppkpaa
open Go.Sh
/-! ### podestalaw07.ModsOthers: function 4 -/
noncomputable def podestalaw07_ModsOthers_F : Go.Sh.Fn := ⟨4, bodyOf Try.f4, 102⟩
def podestalaw07_ModsOthers_k1 : List Kd := [.pure, .pure]
def podestalaw07_ModsOthers_k3 : List Kd := [.pure, .pure, .pure, .pure, .pure, .pure, .pure]
def podestalaw07_ModsOthers_k5 : List Kd := [.pure, .pure, .pure, .pure, .pure, .pure, .pure, .pure, .pure, .pure, .pure, .read, .pure, .pure]
def podestalaw07_ModsOthers_k6 : List Kd := [.pure, .pure, .pure, .pure, .pure, .pure, .pure, .pure, .pure, .pure, .pure, .pure, .pure, .pure, .pure, .pure]
def podestalaw07_ModsOthers_k4 : List Kd := [.pure, .pure, .pure, .pure, .pure, .pure, .read, .pure]
def podestalaw07_ModsOthers_k7 : List Kd := [.pure, .pure, .pure, .read, .pure, .pure, .pure, .pure, .pure, .pure, .pure, .pure, .pure, .pure, .pure, .pure, .pure, .pure, .pure, .pure, .pure, .pure]
def podestalaw07_ModsOthers_k2 : List Kd := [.pure, .read, .pure, .pure, .pure, .pure, .pure, .pure]
def podestalaw07_ModsOthers_k0 : List Kd := [.pure, .pure, .pure, .pure, .pure, .read, .pure, .pure, .pure]
def podestalaw07_ModsOthers_l1 (m1 : Mod) (x : (List Rule) × Int) : Nat → Int → Option (Int)
  | 0, _ => none
  | m + 1, k2 =>
    (bif (decide (k2 < (((List.map Rule.av x.1).length : Nat) : Int))) then
    (ixO x.1 k2).bind fun x2 =>
    (bif (x2.Owner == m1.Owner) then
      podestalaw07_ModsOthers_l1 m1 x m (IntKind.i64.wrap (k2 + 1))
    else
      some k2)
  else
    some k2)
theorem podestalaw07_ModsOthers_l1_walk (q1 : Nat) (l : List Rule) (m1 : Mod) (x : (List Rule) × Int) (i : Nat) (k1 : Int) (x1 : Rule) (hv_i : ixO l ((i : Nat) : Int) = some x1) (f_l : Bool) (r : Bool) (c0 : Ctx) (hc0 : c0.m.length = 0) (res : Int) (J : AR Try.prog tab podestalaw07_ModsOthers_F c0 (Rp tab.S c0 (.sc (.bool r)) []) [.code [1, 1, 1, 1, 1, 0, 1, 0, 0, 1, 0, 0, 1, 1], .blk 1, .code [1, 1, 1, 1, 1, 0, 1, 0, 0, 1, 1], .loop [1, 1, 1, 1, 1, 0, 1, 0], .blk 0, .code [1, 1, 1, 1, 1, 1]] [(0, .sl 40 (List.map Rule.av l) f_l), (3, .ptr 0 0 none), (5, .sl 40 (List.map Rule.av x.1) false), (7, .sc (.int .i64 res)), (8, .sc (.int .i64 ((i : Nat) : Int)))] [.box 30 (Mod.ch m1)]) :
    ∀ (m : Nat) (k2 : Int) (H : podestalaw07_ModsOthers_l1 m1 x m k2 = some res), AR Try.prog tab podestalaw07_ModsOthers_F c0 (Rp tab.S c0 (.sc (.bool r)) []) [.code [1, 1, 1, 1, 1, 0, 1, 0, 0, 1, 0, 0, 1, 0, 0, 0], .loop [1, 1, 1, 1, 1, 0, 1, 0, 0, 1, 0, 0, 1, 0, 0], .blk 2, .code [1, 1, 1, 1, 1, 0, 1, 0, 0, 1, 0, 0, 1, 1], .blk 1, .code [1, 1, 1, 1, 1, 0, 1, 0, 0, 1, 1], .loop [1, 1, 1, 1, 1, 0, 1, 0], .blk 0, .code [1, 1, 1, 1, 1, 1]] [(0, .sl 40 (List.map Rule.av l) f_l), (3, .ptr 0 0 none), (5, .sl 40 (List.map Rule.av x.1) false), (7, .sc (.int .i64 k2)), (8, .sc (.int .i64 ((i : Nat) : Int)))] [.box 30 (Mod.ch m1)] := by
  have hG := tab_ok
  have hm := mixed
  intro m
  induction m with
  | zero => intro k2 H; cases H
  | succ m ih =>
    intro k2 H
    rw [podestalaw07_ModsOthers_l1] at H
    refine AR.seg hG hm 2 [0, 3, 5, 7, 8] (k' := [.code [1, 1, 1, 1, 1, 0, 1, 0, 0, 1, 0, 0, 1, 0, 0, 0, 0, 0], .code [1, 1, 1, 1, 1, 0, 1, 0, 0, 1, 0, 0, 1, 0, 0, 0, 0, 1], .code [1, 1, 1, 1, 1, 0, 1, 0, 0, 1, 0, 0, 1, 0, 0, 0, 1], .loop [1, 1, 1, 1, 1, 0, 1, 0, 0, 1, 0, 0, 1, 0, 0], .blk 2, .code [1, 1, 1, 1, 1, 0, 1, 0, 0, 1, 0, 0, 1, 1], .blk 1, .code [1, 1, 1, 1, 1, 0, 1, 0, 0, 1, 1], .loop [1, 1, 1, 1, 1, 0, 1, 0], .blk 0, .code [1, 1, 1, 1, 1, 1]]) (t' := [(0, .sl 40 (List.map Rule.av l) f_l), (3, .ptr 0 0 none), (5, .sl 40 (List.map Rule.av x.1) false), (7, .sc (.int .i64 k2)), (8, .sc (.int .i64 ((i : Nat) : Int)))]) (h' := [.box 30 (Mod.ch m1)]) (by kernel_rfl) ?_
    refine AR.reg hm podestalaw07_ModsOthers_k5 (by kernel_rfl) ?_
    refine DK.seg hG 5 [0, 3, 5, 7, 8, 51] (t' := [(0, .sl 40 (List.map Rule.av l) f_l), (3, .ptr 0 0 none), (5, .sl 40 (List.map Rule.av x.1) false), (7, .sc (.int .i64 k2)), (8, .sc (.int .i64 ((i : Nat) : Int))), (51, .sc (.bool (decide (k2 < (((List.map Rule.av x.1).length : Nat) : Int)))))]) (h' := [.box 30 (Mod.ch m1)]) (by kernel_rfl) rfl ?_
    refine DK.split 51 (decide (k2 < (((List.map Rule.av x.1).length : Nat) : Int))) (by kernel_rfl) (fun hb => ?ht41) (fun hb => ?hf41)
    case ht41 =>
      replace H := cond_t hb H
      refine DK.seg hG 2 [0, 3, 5, 7, 8, 51, 52, 53] (t' := [(0, .sl 40 (List.map Rule.av l) f_l), (3, .ptr 0 0 none), (5, .sl 40 (List.map Rule.av x.1) false), (7, .sc (.int .i64 k2)), (8, .sc (.int .i64 ((i : Nat) : Int))), (51, .sc (.bool true)), (52, .sl 40 (List.map Rule.av x.1) false), (53, .sc (.int .i64 k2))]) (h' := [.box 30 (Mod.ch m1)]) (by kernel_rfl) rfl ?_
      obtain ⟨x2, hv, H⟩ := Option.bind_eq_some_iff.1 H
      refine DK.op' [0, 3, 5, 7, 8, 51, 54] (t' := [(0, .sl 40 (List.map Rule.av l) f_l), (3, .ptr 0 0 none), (5, .sl 40 (List.map Rule.av x.1) false), (7, .sc (.int .i64 k2)), (8, .sc (.int .i64 ((i : Nat) : Int))), (51, .sc (.bool true)), (54, .ep [.arr .u64 12 x2.Match.Value, .arr .u64 12 x2.Match.Care, .sc (.int .i64 x2.Prio), .sl 48 (List.map Act.av x2.Acts) false, .sc (.int .i64 x2.Idle), .sc (.int .i64 x2.Hard), .sc (.int .i64 x2.Owner), .sc (.int .i64 x2.Hits), .sc (.int .i64 x2.Quiet), .sc (.int .i64 x2.Age)] 0 none)]) (h' := [.box 30 (Mod.ch m1)]) (LSpec.index' (r := Rule.av x2) (fs := [.arr .u64 12 x2.Match.Value, .arr .u64 12 x2.Match.Care, .sc (.int .i64 x2.Prio), .sl 48 (List.map Act.av x2.Acts) false, .sc (.int .i64 x2.Idle), .sc (.int .i64 x2.Hard), .sc (.int .i64 x2.Owner), .sc (.int .i64 x2.Hits), .sc (.int .i64 x2.Quiet), .sc (.int .i64 x2.Age)]) hG (rows := List.map Rule.av x.1) (j := k2) (by kernel_rfl) (ixO_map hv _) (by kernel_rfl)) (by kernel_rfl) rfl (by kernel_rfl) rfl ?_
      refine DK.seg hG 6 [0, 3, 5, 7, 8, 60] (t' := [(0, .sl 40 (List.map Rule.av l) f_l), (3, .ptr 0 0 none), (5, .sl 40 (List.map Rule.av x.1) false), (7, .sc (.int .i64 k2)), (8, .sc (.int .i64 ((i : Nat) : Int))), (60, .sc (.bool (x2.Owner == m1.Owner)))]) (h' := [.box 30 (Mod.ch m1)]) (by kernel_rfl) rfl ?_
      refine DK.done (by kernel_rfl) (by kernel_rfl) ?_
      refine AR.cond (.tmp 60) (x2.Owner == m1.Owner) (by kernel_rfl) (by kernel_rfl) (fun hb => ?ht42) (fun hb => ?hf42)
      case ht42 =>
        replace H := cond_t hb H
        refine AR.seg hG hm 4 [0, 3, 5, 7, 8] (k' := [.loop [1, 1, 1, 1, 1, 0, 1, 0, 0, 1, 0, 0, 1, 0, 0], .blk 2, .code [1, 1, 1, 1, 1, 0, 1, 0, 0, 1, 0, 0, 1, 1], .blk 1, .code [1, 1, 1, 1, 1, 0, 1, 0, 0, 1, 1], .loop [1, 1, 1, 1, 1, 0, 1, 0], .blk 0, .code [1, 1, 1, 1, 1, 1]]) (t' := [(0, .sl 40 (List.map Rule.av l) f_l), (3, .ptr 0 0 none), (5, .sl 40 (List.map Rule.av x.1) false), (7, .sc (.int .i64 (IntKind.i64.wrap (k2 + 1)))), (8, .sc (.int .i64 ((i : Nat) : Int)))]) (h' := [.box 30 (Mod.ch m1)]) (by kernel_rfl) ?_
        refine AR.keep [0, 3, 5, 7, 8] (t' := [(0, .sl 40 (List.map Rule.av l) f_l), (3, .ptr 0 0 none), (5, .sl 40 (List.map Rule.av x.1) false), (7, .sc (.int .i64 (IntKind.i64.wrap (k2 + 1)))), (8, .sc (.int .i64 ((i : Nat) : Int)))]) (by kernel_rfl) ?_
        refine AR.loop_round ?_
        exact ih (IntKind.i64.wrap (k2 + 1)) H
      case hf42 =>
        replace H := cond_f hb H
        refine AR.seg hG hm 1 [0, 3, 5, 7, 8] (k' := [.code [1, 1, 1, 1, 1, 0, 1, 0, 0, 1, 0, 0, 1, 1], .blk 1, .code [1, 1, 1, 1, 1, 0, 1, 0, 0, 1, 1], .loop [1, 1, 1, 1, 1, 0, 1, 0], .blk 0, .code [1, 1, 1, 1, 1, 1]]) (t' := [(0, .sl 40 (List.map Rule.av l) f_l), (3, .ptr 0 0 none), (5, .sl 40 (List.map Rule.av x.1) false), (7, .sc (.int .i64 k2)), (8, .sc (.int .i64 ((i : Nat) : Int)))]) (h' := [.box 30 (Mod.ch m1)]) (by kernel_rfl) ?_
        refine AR.keep [0, 3, 5, 7, 8] (t' := [(0, .sl 40 (List.map Rule.av l) f_l), (3, .ptr 0 0 none), (5, .sl 40 (List.map Rule.av x.1) false), (7, .sc (.int .i64 k2)), (8, .sc (.int .i64 ((i : Nat) : Int)))]) (by kernel_rfl) ?_
        obtain rfl := Option.some.inj H
        exact J
    case hf41 =>
      replace H := cond_f hb H
      refine DK.seg hG 9 [0, 3, 5, 7, 8, 60] (t' := [(0, .sl 40 (List.map Rule.av l) f_l), (3, .ptr 0 0 none), (5, .sl 40 (List.map Rule.av x.1) false), (7, .sc (.int .i64 k2)), (8, .sc (.int .i64 ((i : Nat) : Int))), (60, .sc (.bool false))]) (h' := [.box 30 (Mod.ch m1)]) (by kernel_rfl) rfl ?_
      refine DK.done (by kernel_rfl) (by kernel_rfl) ?_
      refine AR.seg hG hm 2 [0, 3, 5, 7, 8] (k' := [.code [1, 1, 1, 1, 1, 0, 1, 0, 0, 1, 0, 0, 1, 1], .blk 1, .code [1, 1, 1, 1, 1, 0, 1, 0, 0, 1, 1], .loop [1, 1, 1, 1, 1, 0, 1, 0], .blk 0, .code [1, 1, 1, 1, 1, 1]]) (t' := [(0, .sl 40 (List.map Rule.av l) f_l), (3, .ptr 0 0 none), (5, .sl 40 (List.map Rule.av x.1) false), (7, .sc (.int .i64 k2)), (8, .sc (.int .i64 ((i : Nat) : Int)))]) (h' := [.box 30 (Mod.ch m1)]) (by kernel_rfl) ?_
      refine AR.keep [0, 3, 5, 7, 8] (t' := [(0, .sl 40 (List.map Rule.av l) f_l), (3, .ptr 0 0 none), (5, .sl 40 (List.map Rule.av x.1) false), (7, .sc (.int .i64 k2)), (8, .sc (.int .i64 ((i : Nat) : Int)))]) (by kernel_rfl) ?_
      obtain rfl := Option.some.inj H
      exact J
def podestalaw07_ModsOthers_l0s (q1 : Nat) (m1 : Mod) (x : (List Rule) × Int) : List Rule → Int → Option (Sum (Unit) (Bool))
  | [], k1 =>
    some (.inl ())
  | x1 :: rest, k1 =>
    (bif (x1.Owner == m1.Owner) then
      podestalaw07_ModsOthers_l0s q1 m1 x rest k1
    else
      (podestalaw07_ModsOthers_l1 m1 x q1 k1).bind fun v =>
      (bif (decide (v ≥ (((List.map Rule.av x.1).length : Nat) : Int))) then
        some (.inr false)
      else
        (ixO x.1 v).bind fun x2 =>
        (bif (!(podestaref04_Equal x2 x1)) then
          some (.inr false)
        else
          podestalaw07_ModsOthers_l0s q1 m1 x rest (IntKind.i64.wrap (v + 1)))))
theorem podestalaw07_ModsOthers_l0_walk (q1 : Nat) (l : List Rule) (m1 : Mod) (x : (List Rule) × Int) (f_l : Bool) (r : Bool) (c0 : Ctx) (hc0 : c0.m.length = 0) (res : Sum (Unit) (Bool)) (J : ∀ w : Unit, res = .inl w → AR Try.prog tab podestalaw07_ModsOthers_F c0 (Rp tab.S c0 (.sc (.bool r)) []) [.code [1, 1, 1, 1, 1, 1]] [(0, .sl 40 (List.map Rule.av l) f_l), (3, .ptr 0 0 none), (5, .sl 40 (List.map Rule.av x.1) false)] [.box 30 (Mod.ch m1)]) (Jr : ∀ w, res = .inr w → w = r) :
    ∀ (rest : List Rule) (i : Nat) (hd : l.drop i = rest) (k1 : Int) (H : podestalaw07_ModsOthers_l0s q1 m1 x rest k1 = some res), AR Try.prog tab podestalaw07_ModsOthers_F c0 (Rp tab.S c0 (.sc (.bool r)) []) [.code [1, 1, 1, 1, 1, 0, 1, 0, 0], .loop [1, 1, 1, 1, 1, 0, 1, 0], .blk 0, .code [1, 1, 1, 1, 1, 1]] [(0, .sl 40 (List.map Rule.av l) f_l), (3, .ptr 0 0 none), (5, .sl 40 (List.map Rule.av x.1) false), (7, .sc (.int .i64 k1)), (8, .sc (.int .i64 ((i : Nat) : Int)))] [.box 30 (Mod.ch m1)] := by
  have hG := tab_ok
  have hm := mixed
  intro rest
  induction rest with
  | nil =>
    intro i hd k1 H
    rw [podestalaw07_ModsOthers_l0s] at H
    refine AR.facts 0 rfl fun hf => ?_
    have hlen : l.length ≤ 9223372036854775807 := by have hq := len_ok hf.2.1; rw [List.length_map] at hq; exact hq
    have hge : l.length ≤ i := List.drop_eq_nil_iff.1 hd
    have hc : (decide (((i : Nat) : Int) < (((List.map Rule.av l).length : Nat) : Int))) = false := by rw [List.length_map]; exact decide_eq_false (by omega)
    refine AR.seg hG hm 3 [0, 3, 5, 7, 8, 36] (k' := [.code [1, 1, 1, 1, 1, 0, 1, 0, 0, 0, 1], .code [1, 1, 1, 1, 1, 0, 1, 0, 0, 1], .loop [1, 1, 1, 1, 1, 0, 1, 0], .blk 0, .code [1, 1, 1, 1, 1, 1]]) (t' := [(0, .sl 40 (List.map Rule.av l) f_l), (3, .ptr 0 0 none), (5, .sl 40 (List.map Rule.av x.1) false), (7, .sc (.int .i64 k1)), (8, .sc (.int .i64 ((i : Nat) : Int))), (36, .sc (.bool (decide (((i : Nat) : Int) < (((List.map Rule.av l).length : Nat) : Int)))))]) (h' := [.box 30 (Mod.ch m1)]) (by kernel_rfl) ?_
    refine AR.cond (.tmp 36) (decide (((i : Nat) : Int) < (((List.map Rule.av l).length : Nat) : Int))) (by kernel_rfl) (by kernel_rfl) (fun hb => ?ht34) (fun hb => ?hf34)
    case ht34 => exact absurd (hb.symm.trans hc) (by decide)
    case hf34 =>
      refine AR.seg hG hm 1 [0, 3, 5] (k' := [.code [1, 1, 1, 1, 1, 1]]) (t' := [(0, .sl 40 (List.map Rule.av l) f_l), (3, .ptr 0 0 none), (5, .sl 40 (List.map Rule.av x.1) false)]) (h' := [.box 30 (Mod.ch m1)]) (by kernel_rfl) ?_
      refine AR.keep [0, 3, 5] (t' := [(0, .sl 40 (List.map Rule.av l) f_l), (3, .ptr 0 0 none), (5, .sl 40 (List.map Rule.av x.1) false)]) (by kernel_rfl) ?_
      exact J () (Option.some.inj H).symm
  | cons x1 rest ih =>
    intro i hd k1 H
    rw [podestalaw07_ModsOthers_l0s] at H
    refine AR.facts 0 rfl fun hf => ?_
    have hlen : l.length ≤ 9223372036854775807 := by have hq := len_ok hf.2.1; rw [List.length_map] at hq; exact hq
    obtain ⟨hlt, hv_i, hd2⟩ := drop_cons hd
    have hc : (decide (((i : Nat) : Int) < (((List.map Rule.av l).length : Nat) : Int))) = true := by rw [List.length_map]; exact decide_eq_true (by omega)
    have hw : IntKind.i64.wrap (((i : Nat) : Int) + 1) = ((i + 1 : Nat) : Int) := wrapI_succ (by omega)
    refine AR.seg hG hm 3 [0, 3, 5, 7, 8, 36] (k' := [.code [1, 1, 1, 1, 1, 0, 1, 0, 0, 0, 1], .code [1, 1, 1, 1, 1, 0, 1, 0, 0, 1], .loop [1, 1, 1, 1, 1, 0, 1, 0], .blk 0, .code [1, 1, 1, 1, 1, 1]]) (t' := [(0, .sl 40 (List.map Rule.av l) f_l), (3, .ptr 0 0 none), (5, .sl 40 (List.map Rule.av x.1) false), (7, .sc (.int .i64 k1)), (8, .sc (.int .i64 ((i : Nat) : Int))), (36, .sc (.bool (decide (((i : Nat) : Int) < (((List.map Rule.av l).length : Nat) : Int)))))]) (h' := [.box 30 (Mod.ch m1)]) (by kernel_rfl) ?_
    refine AR.cond (.tmp 36) (decide (((i : Nat) : Int) < (((List.map Rule.av l).length : Nat) : Int))) (by kernel_rfl) (by kernel_rfl) (fun hb => ?ht35) (fun hb => ?hf35)
    case ht35 =>
      refine AR.seg hG hm 5 [0, 3, 5, 7, 8] (k' := [.code [1, 1, 1, 1, 1, 0, 1, 0, 0, 1, 0, 0, 0, 0], .code [1, 1, 1, 1, 1, 0, 1, 0, 0, 1, 0, 0, 0, 1], .code [1, 1, 1, 1, 1, 0, 1, 0, 0, 1, 0, 0, 1], .blk 1, .code [1, 1, 1, 1, 1, 0, 1, 0, 0, 1, 1], .loop [1, 1, 1, 1, 1, 0, 1, 0], .blk 0, .code [1, 1, 1, 1, 1, 1]]) (t' := [(0, .sl 40 (List.map Rule.av l) f_l), (3, .ptr 0 0 none), (5, .sl 40 (List.map Rule.av x.1) false), (7, .sc (.int .i64 k1)), (8, .sc (.int .i64 ((i : Nat) : Int)))]) (h' := [.box 30 (Mod.ch m1)]) (by kernel_rfl) ?_
      refine AR.reg hm podestalaw07_ModsOthers_k4 (by kernel_rfl) ?_
      refine DK.seg hG 2 [0, 3, 5, 7, 8, 39, 40] (t' := [(0, .sl 40 (List.map Rule.av l) f_l), (3, .ptr 0 0 none), (5, .sl 40 (List.map Rule.av x.1) false), (7, .sc (.int .i64 k1)), (8, .sc (.int .i64 ((i : Nat) : Int))), (39, .sl 40 (List.map Rule.av l) f_l), (40, .sc (.int .i64 ((i : Nat) : Int)))]) (h' := [.box 30 (Mod.ch m1)]) (by kernel_rfl) rfl ?_
      refine DK.op' [0, 3, 5, 7, 8, 41] (t' := [(0, .sl 40 (List.map Rule.av l) f_l), (3, .ptr 0 0 none), (5, .sl 40 (List.map Rule.av x.1) false), (7, .sc (.int .i64 k1)), (8, .sc (.int .i64 ((i : Nat) : Int))), (41, .ep [.arr .u64 12 x1.Match.Value, .arr .u64 12 x1.Match.Care, .sc (.int .i64 x1.Prio), .sl 48 (List.map Act.av x1.Acts) false, .sc (.int .i64 x1.Idle), .sc (.int .i64 x1.Hard), .sc (.int .i64 x1.Owner), .sc (.int .i64 x1.Hits), .sc (.int .i64 x1.Quiet), .sc (.int .i64 x1.Age)] 0 none)]) (h' := [.box 30 (Mod.ch m1)]) (LSpec.index' (r := Rule.av x1) (fs := [.arr .u64 12 x1.Match.Value, .arr .u64 12 x1.Match.Care, .sc (.int .i64 x1.Prio), .sl 48 (List.map Act.av x1.Acts) false, .sc (.int .i64 x1.Idle), .sc (.int .i64 x1.Hard), .sc (.int .i64 x1.Owner), .sc (.int .i64 x1.Hits), .sc (.int .i64 x1.Quiet), .sc (.int .i64 x1.Age)]) hG (rows := List.map Rule.av l) (j := ((i : Nat) : Int)) (by kernel_rfl) (ixO_map hv_i _) (by kernel_rfl)) (by kernel_rfl) rfl (by kernel_rfl) rfl ?_
      refine DK.seg hG 5 [0, 3, 5, 7, 8, 46] (t' := [(0, .sl 40 (List.map Rule.av l) f_l), (3, .ptr 0 0 none), (5, .sl 40 (List.map Rule.av x.1) false), (7, .sc (.int .i64 k1)), (8, .sc (.int .i64 ((i : Nat) : Int))), (46, .sc (.bool (x1.Owner == m1.Owner)))]) (h' := [.box 30 (Mod.ch m1)]) (by kernel_rfl) rfl ?_
      refine DK.done (by kernel_rfl) (by kernel_rfl) ?_
      refine AR.cond (.tmp 46) (x1.Owner == m1.Owner) (by kernel_rfl) (by kernel_rfl) (fun hb => ?ht36) (fun hb => ?hf36)
      case ht36 =>
        replace H := cond_t hb H
        refine AR.seg hG hm 2 [0, 3, 5, 7, 8] (k' := [.loop [1, 1, 1, 1, 1, 0, 1, 0], .blk 0, .code [1, 1, 1, 1, 1, 1]]) (t' := [(0, .sl 40 (List.map Rule.av l) f_l), (3, .ptr 0 0 none), (5, .sl 40 (List.map Rule.av x.1) false), (7, .sc (.int .i64 k1)), (8, .sc (.int .i64 (IntKind.i64.wrap (((i : Nat) : Int) + 1))))]) (h' := [.box 30 (Mod.ch m1)]) (by kernel_rfl) ?_
        refine AR.keep [0, 3, 5, 7, 8] (t' := [(0, .sl 40 (List.map Rule.av l) f_l), (3, .ptr 0 0 none), (5, .sl 40 (List.map Rule.av x.1) false), (7, .sc (.int .i64 k1)), (8, .sc (.int .i64 (IntKind.i64.wrap (((i : Nat) : Int) + 1))))]) (by kernel_rfl) ?_
        refine AR.loop_round ?_
        rw [hw]
        exact ih (i + 1) hd2 k1 H
      case hf36 =>
        replace H := cond_f hb H
        refine AR.seg hG hm 3 [0, 3, 5, 7, 8] (k' := [.code [1, 1, 1, 1, 1, 0, 1, 0, 0, 1, 0, 0, 1, 0, 0], .blk 2, .code [1, 1, 1, 1, 1, 0, 1, 0, 0, 1, 0, 0, 1, 1], .blk 1, .code [1, 1, 1, 1, 1, 0, 1, 0, 0, 1, 1], .loop [1, 1, 1, 1, 1, 0, 1, 0], .blk 0, .code [1, 1, 1, 1, 1, 1]]) (t' := [(0, .sl 40 (List.map Rule.av l) f_l), (3, .ptr 0 0 none), (5, .sl 40 (List.map Rule.av x.1) false), (7, .sc (.int .i64 k1)), (8, .sc (.int .i64 ((i : Nat) : Int)))]) (h' := [.box 30 (Mod.ch m1)]) (by kernel_rfl) ?_
        obtain ⟨v, hv, H⟩ := Option.bind_eq_some_iff.1 H
        refine AR.into (by kernel_rfl) ?_
        refine podestalaw07_ModsOthers_l1_walk q1 l m1 x i k1 x1 hv_i f_l r c0 hc0 v ?_ q1 k1 hv
        refine AR.seg hG hm 2 [0, 3, 5, 7, 8] (k' := [.code [1, 1, 1, 1, 1, 0, 1, 0, 0, 1, 0, 0, 1, 1, 0, 0], .code [1, 1, 1, 1, 1, 0, 1, 0, 0, 1, 0, 0, 1, 1, 0, 1], .code [1, 1, 1, 1, 1, 0, 1, 0, 0, 1, 0, 0, 1, 1, 1], .blk 1, .code [1, 1, 1, 1, 1, 0, 1, 0, 0, 1, 1], .loop [1, 1, 1, 1, 1, 0, 1, 0], .blk 0, .code [1, 1, 1, 1, 1, 1]]) (t' := [(0, .sl 40 (List.map Rule.av l) f_l), (3, .ptr 0 0 none), (5, .sl 40 (List.map Rule.av x.1) false), (7, .sc (.int .i64 v)), (8, .sc (.int .i64 ((i : Nat) : Int)))]) (h' := [.box 30 (Mod.ch m1)]) (by kernel_rfl) ?_
        refine AR.reg hm podestalaw07_ModsOthers_k6 (by kernel_rfl) ?_
        refine DK.seg hG 5 [0, 3, 5, 7, 8, 67] (t' := [(0, .sl 40 (List.map Rule.av l) f_l), (3, .ptr 0 0 none), (5, .sl 40 (List.map Rule.av x.1) false), (7, .sc (.int .i64 v)), (8, .sc (.int .i64 ((i : Nat) : Int))), (67, .sc (.bool (decide (v ≥ (((List.map Rule.av x.1).length : Nat) : Int)))))]) (h' := [.box 30 (Mod.ch m1)]) (by kernel_rfl) rfl ?_
        refine DK.split 67 (decide (v ≥ (((List.map Rule.av x.1).length : Nat) : Int))) (by kernel_rfl) (fun hb => ?ht43) (fun hb => ?hf43)
        case ht43 =>
          replace H := cond_t hb H
          refine DK.seg hG 11 [0, 3, 5, 7, 8, 78] (t' := [(0, .sl 40 (List.map Rule.av l) f_l), (3, .ptr 0 0 none), (5, .sl 40 (List.map Rule.av x.1) false), (7, .sc (.int .i64 v)), (8, .sc (.int .i64 ((i : Nat) : Int))), (78, .sc (.bool true))]) (h' := [.box 30 (Mod.ch m1)]) (by kernel_rfl) rfl ?_
          refine DK.done (by kernel_rfl) (by kernel_rfl) ?_
          refine AR.seg hG hm 3 [4] (k' := [.code [1, 1, 1, 1, 1, 0, 1, 0, 0, 1, 0, 0, 1, 1, 0, 1, 0, 1], .code [1, 1, 1, 1, 1, 0, 1, 0, 0, 1, 0, 0, 1, 1, 1], .blk 1, .code [1, 1, 1, 1, 1, 0, 1, 0, 0, 1, 1], .loop [1, 1, 1, 1, 1, 0, 1, 0], .blk 0, .code [1, 1, 1, 1, 1, 1]]) (t' := [(4, .sc (.bool false))]) (h' := [.box 30 (Mod.ch m1)]) (by kernel_rfl) ?_
          obtain rfl := Option.some.inj H
          obtain rfl := Jr _ rfl
          exact AR.ret0 (fn := Try.f4) hG Try.func4 (by kernel_rfl) hc0 (r0 := .sc (.bool false)) (by kernel_rfl) (WkV.refl _)
        case hf43 =>
          replace H := cond_f hb H
          refine DK.seg hG 2 [0, 3, 5, 7, 8, 67, 68, 69] (t' := [(0, .sl 40 (List.map Rule.av l) f_l), (3, .ptr 0 0 none), (5, .sl 40 (List.map Rule.av x.1) false), (7, .sc (.int .i64 v)), (8, .sc (.int .i64 ((i : Nat) : Int))), (67, .sc (.bool false)), (68, .sl 40 (List.map Rule.av x.1) false), (69, .sc (.int .i64 v))]) (h' := [.box 30 (Mod.ch m1)]) (by kernel_rfl) rfl ?_
          obtain ⟨x2, hv, H⟩ := Option.bind_eq_some_iff.1 H
          refine DK.op' [0, 3, 5, 7, 8, 67, 70] (t' := [(0, .sl 40 (List.map Rule.av l) f_l), (3, .ptr 0 0 none), (5, .sl 40 (List.map Rule.av x.1) false), (7, .sc (.int .i64 v)), (8, .sc (.int .i64 ((i : Nat) : Int))), (67, .sc (.bool false)), (70, .ep [.arr .u64 12 x2.Match.Value, .arr .u64 12 x2.Match.Care, .sc (.int .i64 x2.Prio), .sl 48 (List.map Act.av x2.Acts) false, .sc (.int .i64 x2.Idle), .sc (.int .i64 x2.Hard), .sc (.int .i64 x2.Owner), .sc (.int .i64 x2.Hits), .sc (.int .i64 x2.Quiet), .sc (.int .i64 x2.Age)] 0 none)]) (h' := [.box 30 (Mod.ch m1)]) (LSpec.index' (r := Rule.av x2) (fs := [.arr .u64 12 x2.Match.Value, .arr .u64 12 x2.Match.Care, .sc (.int .i64 x2.Prio), .sl 48 (List.map Act.av x2.Acts) false, .sc (.int .i64 x2.Idle), .sc (.int .i64 x2.Hard), .sc (.int .i64 x2.Owner), .sc (.int .i64 x2.Hits), .sc (.int .i64 x2.Quiet), .sc (.int .i64 x2.Age)]) hG (rows := List.map Rule.av x.1) (j := v) (by kernel_rfl) (ixO_map hv _) (by kernel_rfl)) (by kernel_rfl) rfl (by kernel_rfl) rfl ?_
          refine DK.seg hG 3 [0, 3, 5, 7, 8, 67, 71, 72, 73] (t' := [(0, .sl 40 (List.map Rule.av l) f_l), (3, .ptr 0 0 none), (5, .sl 40 (List.map Rule.av x.1) false), (7, .sc (.int .i64 v)), (8, .sc (.int .i64 ((i : Nat) : Int))), (67, .sc (.bool false)), (71, Rule.av x2), (72, .sl 40 (List.map Rule.av l) f_l), (73, .sc (.int .i64 ((i : Nat) : Int)))]) (h' := [.box 30 (Mod.ch m1)]) (by kernel_rfl) rfl ?_
          refine DK.op' [0, 3, 5, 7, 8, 67, 71, 74] (t' := [(0, .sl 40 (List.map Rule.av l) f_l), (3, .ptr 0 0 none), (5, .sl 40 (List.map Rule.av x.1) false), (7, .sc (.int .i64 v)), (8, .sc (.int .i64 ((i : Nat) : Int))), (67, .sc (.bool false)), (71, Rule.av x2), (74, .ep [.arr .u64 12 x1.Match.Value, .arr .u64 12 x1.Match.Care, .sc (.int .i64 x1.Prio), .sl 48 (List.map Act.av x1.Acts) false, .sc (.int .i64 x1.Idle), .sc (.int .i64 x1.Hard), .sc (.int .i64 x1.Owner), .sc (.int .i64 x1.Hits), .sc (.int .i64 x1.Quiet), .sc (.int .i64 x1.Age)] 0 none)]) (h' := [.box 30 (Mod.ch m1)]) (LSpec.index' (r := Rule.av x1) (fs := [.arr .u64 12 x1.Match.Value, .arr .u64 12 x1.Match.Care, .sc (.int .i64 x1.Prio), .sl 48 (List.map Act.av x1.Acts) false, .sc (.int .i64 x1.Idle), .sc (.int .i64 x1.Hard), .sc (.int .i64 x1.Owner), .sc (.int .i64 x1.Hits), .sc (.int .i64 x1.Quiet), .sc (.int .i64 x1.Age)]) hG (rows := List.map Rule.av l) (j := ((i : Nat) : Int)) (by kernel_rfl) (ixO_map hv_i _) (by kernel_rfl)) (by kernel_rfl) rfl (by kernel_rfl) rfl ?_
          refine DK.seg hG 1 [0, 3, 5, 7, 8, 67, 71, 75] (t' := [(0, .sl 40 (List.map Rule.av l) f_l), (3, .ptr 0 0 none), (5, .sl 40 (List.map Rule.av x.1) false), (7, .sc (.int .i64 v)), (8, .sc (.int .i64 ((i : Nat) : Int))), (67, .sc (.bool false)), (71, Rule.av x2), (75, Rule.av x1)]) (h' := [.box 30 (Mod.ch m1)]) (by kernel_rfl) rfl ?_
          refine DK.op' [0, 3, 5, 7, 8, 67, 76] (t' := [(0, .sl 40 (List.map Rule.av l) f_l), (3, .ptr 0 0 none), (5, .sl 40 (List.map Rule.av x.1) false), (7, .sc (.int .i64 v)), (8, .sc (.int .i64 ((i : Nat) : Int))), (67, .sc (.bool false)), (76, .sc (.bool (podestaref04_Equal x2 x1)))]) (h' := [.box 30 (Mod.ch m1)]) (LSpec.callP' (podestaref04_Equal_calls x2 x1) (by kernel_rfl)) (by kernel_rfl) rfl (by kernel_rfl) rfl ?_
          refine DK.seg hG 2 [0, 3, 5, 7, 8, 78] (t' := [(0, .sl 40 (List.map Rule.av l) f_l), (3, .ptr 0 0 none), (5, .sl 40 (List.map Rule.av x.1) false), (7, .sc (.int .i64 v)), (8, .sc (.int .i64 ((i : Nat) : Int))), (78, .sc (.bool (!(podestaref04_Equal x2 x1))))]) (h' := [.box 30 (Mod.ch m1)]) (by kernel_rfl) rfl ?_
          refine DK.done (by kernel_rfl) (by kernel_rfl) ?_
          refine AR.cond (.tmp 78) (!(podestaref04_Equal x2 x1)) (by kernel_rfl) (by kernel_rfl) (fun hb => ?ht44) (fun hb => ?hf44)
          case ht44 =>
            replace H := cond_t hb H
            refine AR.seg hG hm 2 [4] (k' := [.code [1, 1, 1, 1, 1, 0, 1, 0, 0, 1, 0, 0, 1, 1, 0, 1, 0, 1], .code [1, 1, 1, 1, 1, 0, 1, 0, 0, 1, 0, 0, 1, 1, 1], .blk 1, .code [1, 1, 1, 1, 1, 0, 1, 0, 0, 1, 1], .loop [1, 1, 1, 1, 1, 0, 1, 0], .blk 0, .code [1, 1, 1, 1, 1, 1]]) (t' := [(4, .sc (.bool false))]) (h' := [.box 30 (Mod.ch m1)]) (by kernel_rfl) ?_
            obtain rfl := Option.some.inj H
            obtain rfl := Jr _ rfl
            exact AR.ret0 (fn := Try.f4) hG Try.func4 (by kernel_rfl) hc0 (r0 := .sc (.bool false)) (by kernel_rfl) (WkV.refl _)
          case hf44 =>
            replace H := cond_f hb H
            refine AR.seg hG hm 4 [0, 3, 5, 7, 8] (k' := [.loop [1, 1, 1, 1, 1, 0, 1, 0], .blk 0, .code [1, 1, 1, 1, 1, 1]]) (t' := [(0, .sl 40 (List.map Rule.av l) f_l), (3, .ptr 0 0 none), (5, .sl 40 (List.map Rule.av x.1) false), (7, .sc (.int .i64 (IntKind.i64.wrap (v + 1)))), (8, .sc (.int .i64 (IntKind.i64.wrap (((i : Nat) : Int) + 1))))]) (h' := [.box 30 (Mod.ch m1)]) (by kernel_rfl) ?_
            refine AR.keep [0, 3, 5, 7, 8] (t' := [(0, .sl 40 (List.map Rule.av l) f_l), (3, .ptr 0 0 none), (5, .sl 40 (List.map Rule.av x.1) false), (7, .sc (.int .i64 (IntKind.i64.wrap (v + 1)))), (8, .sc (.int .i64 (IntKind.i64.wrap (((i : Nat) : Int) + 1))))]) (by kernel_rfl) ?_
            refine AR.loop_round ?_
            rw [hw]
            exact ih (i + 1) hd2 (IntKind.i64.wrap (v + 1)) H
    case hf35 => exact absurd (hc.symm.trans hb) (by decide)

def podestalaw07_ModsOthers_raw (q1 : Nat) (l : List Rule) (m1 : Mod) : Option (Bool) :=
  (bif ((decide ((((List.map Rule.av l).length : Nat) : Int) > 50)) || (decide ((((List.map Act.av m1.Acts).length : Nat) : Int) > 50))) then
    some true
  else
    (applyO l m1 1000).bind fun x =>
    (bif (x.2 != 0) then
      some ((((List.map Rule.av x.1).length : Nat) : Int) == 0)
    else
      loopO (podestalaw07_ModsOthers_l0s q1 m1 x l 0) fun v =>
      some (((m1.Kind == 1) || (decide ((((List.map Rule.av x.1).length : Nat) : Int) ≤ (((List.map Rule.av l).length : Nat) : Int)))) && (decide ((((List.map Rule.av x.1).length : Nat) : Int) ≤ (IntKind.i64.wrap ((((List.map Rule.av l).length : Nat) : Int) + 1)))))))
theorem podestalaw07_ModsOthers_walk (q1 : Nat) (l : List Rule) (m1 : Mod) (f_l : Bool) (r : Bool) (H : podestalaw07_ModsOthers_raw q1 l m1 = some r) :
    ACalls Try.prog tab.S 4 [.sl 40 (List.map Rule.av l) f_l, Mod.av m1] [] (.sc (.bool r)) [] := by
  have hG := tab_ok
  have hm := mixed
  refine ACalls.of_AR (G := tab) podestalaw07_ModsOthers_F (fn := Try.f4) Try.func4 (by kernel_rfl) (by kernel_rfl) (by kernel_rfl) (Nat.le_of_ble_eq_true (by kernel_rfl)) ?_
  intro c0 hc0
  replace hc0 : c0.m.length = 0 := hc0
  rw [podestalaw07_ModsOthers_raw] at H
  refine AR.seg hG hm 4 [0, 3] (k' := [.code [1, 0, 0], .code [1, 0, 1], .code [1, 1]]) (t' := [(0, .sl 40 (List.map Rule.av l) f_l), (3, .ptr 0 0 none)]) (h' := [.box 30 (Mod.ch m1)]) (by kernel_rfl) ?_
  refine AR.reg hm podestalaw07_ModsOthers_k0 (by kernel_rfl) ?_
  refine DK.seg hG 4 [0, 3, 12] (t' := [(0, .sl 40 (List.map Rule.av l) f_l), (3, .ptr 0 0 none), (12, .sc (.bool (decide ((((List.map Rule.av l).length : Nat) : Int) > 50))))]) (h' := [.box 30 (Mod.ch m1)]) (by kernel_rfl) rfl ?_
  refine DK.mux 12 (decide ((((List.map Rule.av l).length : Nat) : Int) > 50)) (j := 9) (h' := [.box 30 (Mod.ch m1)]) (by kernel_rfl) (fun z => [(0, .sl 40 (List.map Rule.av l) f_l), (3, .ptr 0 0 none), (17, .sc (.bool (z || (decide ((((List.map Act.av m1.Acts).length : Nat) : Int) > 50)))))]) ?J1 (fun hb J => ?ht1) (fun hb J => ?hf1)
  case ht1 =>
    exact DK.seg hG 5 [0, 3, 17] (by kernel_rfl) rfl J
  case hf1 =>
    exact DK.seg hG 5 [0, 3, 17] (by kernel_rfl) rfl J
  refine DK.done (by kernel_rfl) (by kernel_rfl) ?_
  refine AR.cond (.tmp 17) ((decide ((((List.map Rule.av l).length : Nat) : Int) > 50)) || (decide ((((List.map Act.av m1.Acts).length : Nat) : Int) > 50))) (by kernel_rfl) (by kernel_rfl) (fun hb => ?ht2) (fun hb => ?hf2)
  case ht2 =>
    replace H := cond_t hb H
    refine AR.seg hG hm 1 [] (k' := [.code [1, 0, 1, 0, 0], .code [1, 0, 1, 0, 1], .code [1, 1]]) (t' := []) (h' := [.box 30 (Mod.ch m1)]) (by kernel_rfl) ?_
    refine AR.reg hm podestalaw07_ModsOthers_k1 (by kernel_rfl) ?_
    refine DK.op' [18] (t' := [(18, .sc (.bool true))]) (h' := [.box 30 (Mod.ch m1)]) (LSpec.callP' (podestalaw07_answers_ok) (by kernel_rfl)) (by kernel_rfl) rfl (by kernel_rfl) rfl ?_
    refine DK.seg hG 1 [4] (t' := [(4, .sc (.bool true))]) (h' := [.box 30 (Mod.ch m1)]) (by kernel_rfl) rfl ?_
    refine DK.done (by kernel_rfl) (by kernel_rfl) ?_
    obtain rfl := Option.some.inj H
    exact AR.ret0 (fn := Try.f4) hG Try.func4 (by kernel_rfl) hc0 (r0 := .sc (.bool true)) (by kernel_rfl) (WkV.refl _)
  case hf2 =>
    replace H := cond_f hb H
    refine AR.seg hG hm 2 [0, 3] (k' := [.code [1, 1, 0], .code [1, 1, 1]]) (t' := [(0, .sl 40 (List.map Rule.av l) f_l), (3, .ptr 0 0 none)]) (h' := [.box 30 (Mod.ch m1)]) (by kernel_rfl) ?_
    refine AR.reg hm podestalaw07_ModsOthers_k2 (by kernel_rfl) ?_
    refine DK.seg hG 2 [0, 3, 20, 21] (t' := [(0, .sl 40 (List.map Rule.av l) f_l), (3, .ptr 0 0 none), (20, .sl 40 (List.map Rule.av l) f_l), (21, Mod.av m1)]) (h' := [.box 30 (Mod.ch m1)]) (by kernel_rfl) rfl ?_
    obtain ⟨x, hv, H⟩ := Option.bind_eq_some_iff.1 H
    refine DK.op' [0, 3, 22] (t' := [(0, .sl 40 (List.map Rule.av l) f_l), (3, .ptr 0 0 none), (22, .tup [.sl 40 (List.map Rule.av x.1) false, .sc (.int .i64 x.2)])]) (h' := [.box 30 (Mod.ch m1)]) (LSpec.callP' (mods_Apply_ok l m1 1000 f_l x hv) (by kernel_rfl)) (by kernel_rfl) rfl (by kernel_rfl) rfl ?_
    refine DK.seg hG 5 [0, 3, 5, 6] (t' := [(0, .sl 40 (List.map Rule.av l) f_l), (3, .ptr 0 0 none), (5, .sl 40 (List.map Rule.av x.1) false), (6, .sc (.int .i64 x.2))]) (h' := [.box 30 (Mod.ch m1)]) (by kernel_rfl) rfl ?_
    refine DK.done (by kernel_rfl) (by kernel_rfl) ?_
    refine AR.seg hG hm 3 [0, 3, 5, 26] (k' := [.code [1, 1, 1, 0, 1], .code [1, 1, 1, 1]]) (t' := [(0, .sl 40 (List.map Rule.av l) f_l), (3, .ptr 0 0 none), (5, .sl 40 (List.map Rule.av x.1) false), (26, .sc (.bool (x.2 != 0)))]) (h' := [.box 30 (Mod.ch m1)]) (by kernel_rfl) ?_
    refine AR.cond (.tmp 26) (x.2 != 0) (by kernel_rfl) (by kernel_rfl) (fun hb => ?ht3) (fun hb => ?hf3)
    case ht3 =>
      replace H := cond_t hb H
      refine AR.seg hG hm 1 [5] (k' := [.code [1, 1, 1, 0, 1, 0, 0], .code [1, 1, 1, 0, 1, 0, 1], .code [1, 1, 1, 1]]) (t' := [(5, .sl 40 (List.map Rule.av x.1) false)]) (h' := [.box 30 (Mod.ch m1)]) (by kernel_rfl) ?_
      refine AR.reg hm podestalaw07_ModsOthers_k3 (by kernel_rfl) ?_
      refine DK.op' [5, 27] (t' := [(5, .sl 40 (List.map Rule.av x.1) false), (27, .sc (.bool true))]) (h' := [.box 30 (Mod.ch m1)]) (LSpec.callP' (podestalaw07_answers_ok) (by kernel_rfl)) (by kernel_rfl) rfl (by kernel_rfl) rfl ?_
      refine DK.seg hG 6 [4] (t' := [(4, .sc (.bool ((((List.map Rule.av x.1).length : Nat) : Int) == 0)))]) (h' := [.box 30 (Mod.ch m1)]) (by kernel_rfl) rfl ?_
      refine DK.done (by kernel_rfl) (by kernel_rfl) ?_
      obtain rfl := Option.some.inj H
      exact AR.ret0 (fn := Try.f4) hG Try.func4 (by kernel_rfl) hc0 (r0 := .sc (.bool ((((List.map Rule.av x.1).length : Nat) : Int) == 0))) (by kernel_rfl) (WkV.refl _)
    case hf3 =>
      replace H := cond_f hb H
      refine AR.seg hG hm 7 [0, 3, 5, 7, 8] (k' := [.code [1, 1, 1, 1, 1, 0, 1, 0], .blk 0, .code [1, 1, 1, 1, 1, 1]]) (t' := [(0, .sl 40 (List.map Rule.av l) f_l), (3, .ptr 0 0 none), (5, .sl 40 (List.map Rule.av x.1) false), (7, .sc (.int .i64 0)), (8, .sc (.int .i64 0))]) (h' := [.box 30 (Mod.ch m1)]) (by kernel_rfl) ?_
      rcases loopO_some H with ⟨v, hv, H⟩ | hv
      case inr =>
        refine AR.into (by kernel_rfl) ?_
        exact podestalaw07_ModsOthers_l0_walk q1 l m1 x f_l _ c0 hc0 (.inr _) (fun _ e => by cases e) (fun _ e => (Sum.inr.inj e).symm) l 0 rfl 0 hv
      refine AR.into (by kernel_rfl) ?_
      refine podestalaw07_ModsOthers_l0_walk q1 l m1 x f_l r c0 hc0 (.inl v) (fun w e => ?_) (fun _ e => by cases e) l 0 rfl 0 hv
      have e := Sum.inl.inj e
      subst e
      refine AR.seg hG hm 1 [0, 3, 5] (k' := [.code [1, 1, 1, 1, 1, 1, 0], .code [1, 1, 1, 1, 1, 1, 1]]) (t' := [(0, .sl 40 (List.map Rule.av l) f_l), (3, .ptr 0 0 none), (5, .sl 40 (List.map Rule.av x.1) false)]) (h' := [.box 30 (Mod.ch m1)]) (by kernel_rfl) ?_
      refine AR.reg hm podestalaw07_ModsOthers_k7 (by kernel_rfl) ?_
      refine DK.op' [0, 3, 5, 81] (t' := [(0, .sl 40 (List.map Rule.av l) f_l), (3, .ptr 0 0 none), (5, .sl 40 (List.map Rule.av x.1) false), (81, .sc (.bool true))]) (h' := [.box 30 (Mod.ch m1)]) (LSpec.callP' (podestalaw07_answers_ok) (by kernel_rfl)) (by kernel_rfl) rfl (by kernel_rfl) rfl ?_
      refine DK.seg hG 5 [0, 5, 82, 86] (t' := [(0, .sl 40 (List.map Rule.av l) f_l), (5, .sl 40 (List.map Rule.av x.1) false), (82, .sc (.bool true)), (86, .sc (.bool (m1.Kind == 1)))]) (h' := [.box 30 (Mod.ch m1)]) (by kernel_rfl) rfl ?_
      refine DK.mux 86 (m1.Kind == 1) (j := 12) (h' := [.box 30 (Mod.ch m1)]) (by kernel_rfl) (fun z => [(0, .sl 40 (List.map Rule.av l) f_l), (5, .sl 40 (List.map Rule.av x.1) false), (82, .sc (.bool true)), (92, .sc (.bool (z || (decide ((((List.map Rule.av x.1).length : Nat) : Int) ≤ (((List.map Rule.av l).length : Nat) : Int))))))]) ?J45 (fun hb J => ?ht45) (fun hb J => ?hf45)
      case ht45 =>
        exact DK.seg hG 6 [0, 5, 82, 92] (by kernel_rfl) rfl J
      case hf45 =>
        exact DK.seg hG 6 [0, 5, 82, 92] (by kernel_rfl) rfl J
      refine DK.seg hG 2 [0, 5, 94] (t' := [(0, .sl 40 (List.map Rule.av l) f_l), (5, .sl 40 (List.map Rule.av x.1) false), (94, .sc (.bool ((m1.Kind == 1) || (decide ((((List.map Rule.av x.1).length : Nat) : Int) ≤ (((List.map Rule.av l).length : Nat) : Int))))))]) (h' := [.box 30 (Mod.ch m1)]) (by kernel_rfl) rfl ?_
      refine DK.mux 94 ((m1.Kind == 1) || (decide ((((List.map Rule.av x.1).length : Nat) : Int) ≤ (((List.map Rule.av l).length : Nat) : Int)))) (j := 21) (h' := [.box 30 (Mod.ch m1)]) (by kernel_rfl) (fun z => [(101, .sc (.bool (z && (decide ((((List.map Rule.av x.1).length : Nat) : Int) ≤ (IntKind.i64.wrap ((((List.map Rule.av l).length : Nat) : Int) + 1)))))))]) ?J46 (fun hb J => ?ht46) (fun hb J => ?hf46)
      case ht46 =>
        exact DK.seg hG 7 [101] (by kernel_rfl) rfl J
      case hf46 =>
        exact DK.seg hG 7 [101] (by kernel_rfl) rfl J
      refine DK.seg hG 1 [4] (t' := [(4, .sc (.bool (((m1.Kind == 1) || (decide ((((List.map Rule.av x.1).length : Nat) : Int) ≤ (((List.map Rule.av l).length : Nat) : Int)))) && (decide ((((List.map Rule.av x.1).length : Nat) : Int) ≤ (IntKind.i64.wrap ((((List.map Rule.av l).length : Nat) : Int) + 1)))))))]) (h' := [.box 30 (Mod.ch m1)]) (by kernel_rfl) rfl ?_
      refine DK.done (by kernel_rfl) (by kernel_rfl) ?_
      obtain rfl := Option.some.inj H
      exact AR.ret0 (fn := Try.f4) hG Try.func4 (by kernel_rfl) hc0 (r0 := .sc (.bool (((m1.Kind == 1) || (decide ((((List.map Rule.av x.1).length : Nat) : Int) ≤ (((List.map Rule.av l).length : Nat) : Int)))) && (decide ((((List.map Rule.av x.1).length : Nat) : Int) ≤ (IntKind.i64.wrap ((((List.map Rule.av l).length : Nat) : Int) + 1))))))) (by kernel_rfl) (WkV.refl _)

def oth (m : Mod) (x : Rule) : Bool := !(x.Owner == m.Owner)
theorem Others_l1_eq (m : Mod) (x : List Rule × Int) (hl : x.1.length ≤ 1000000) : ∀ (q k : Nat), k ≤ x.1.length → x.1.length - k < q → podestalaw07_ModsOthers_l1 m x q (k : Int) = some ((k + ((x.1.drop k).takeWhile (fun y => y.Owner == m.Owner)).length : Nat) : Int)
  | 0, k, _, h => absurd h (by omega)
  | q + 1, k, h1, h2 => by
      rw [podestalaw07_ModsOthers_l1, List.length_map]
      by_cases hk : k < x.1.length
      · rw [decide_eq_true (by omega), cond_true, ixO_lt hk, Option.bind_some, List.drop_eq_getElem_cons hk, List.takeWhile_cons, wrap_succ (by omega), Others_l1_eq m x hl q (k + 1) (by omega) (by omega)]
        cases x.1[k].Owner == m.Owner
        · rfl
        · simp only [cond_true, if_true, List.length_cons]
          congr 1; omega
      · rw [decide_eq_false (by omega), cond_false, List.drop_eq_nil_of_le (by omega)]; rfl
theorem filter_tw (m : Mod) : ∀ (l : List Rule), l.filter (oth m) = (l.drop (l.takeWhile (fun y => y.Owner == m.Owner)).length).filter (oth m)
  | [] => rfl
  | x :: l => by
      rw [List.takeWhile_cons]
      cases h : x.Owner == m.Owner
      · rfl
      · have : oth m x = false := by unfold oth; rw [h]; rfl
        rw [List.filter_cons_of_neg (by rw [this]; simp)]
        simp only [if_true, List.length_cons, List.drop_succ_cons]
        exact filter_tw m l
theorem tw_stop (m : Mod) : ∀ (l : List Rule) (y : Rule) (r : List Rule), l.drop (l.takeWhile (fun y => y.Owner == m.Owner)).length = y :: r → oth m y = true
  | [], y, r, h => by cases h
  | x :: l, y, r, h => by
      rw [List.takeWhile_cons] at h
      cases hx : x.Owner == m.Owner
      · rw [hx] at h
        simp only [Bool.false_eq_true, if_false, List.length_nil, List.drop_zero] at h
        injection h with h _
        subst h
        unfold oth; rw [hx]; rfl
      · rw [hx] at h
        simp only [if_true, List.length_cons, List.drop_succ_cons] at h
        exact tw_stop m l y r h
theorem Others_l0s_eq (q : Nat) (m : Mod) (x : List Rule × Int) (hl : x.1.length ≤ 1000000) (hq : x.1.length < q) : ∀ (l : List Rule) (k : Nat), k ≤ x.1.length → l.filter (oth m) = (x.1.drop k).filter (oth m) → podestalaw07_ModsOthers_l0s q m x l (k : Int) = some (.inl ())
  | [], k, _, _ => by rw [podestalaw07_ModsOthers_l0s]
  | y :: l, k, hk, hf => by
      rw [podestalaw07_ModsOthers_l0s]
      cases ho : y.Owner == m.Owner
      · have hy : oth m y = true := by unfold oth; rw [ho]; rfl
        rw [cond_false, Others_l1_eq m x hl q k hk (by omega), Option.bind_some, List.length_map]
        rw [List.filter_cons_of_pos hy, filter_tw m (x.1.drop k)] at hf
        have hn : ((x.1.drop k).takeWhile (fun y => y.Owner == m.Owner)).length ≤ (x.1.drop k).length := (List.takeWhile_sublist _).length_le
        rw [List.length_drop] at hn
        have hstop := tw_stop m (x.1.drop k)
        generalize ((x.1.drop k).takeWhile (fun y => y.Owner == m.Owner)).length = n at *
        rw [List.drop_drop] at hf hstop
        by_cases hkn : k + n < x.1.length
        · rw [List.drop_eq_getElem_cons hkn] at hf hstop
          have h1 := hstop _ _ rfl
          rw [List.filter_cons_of_pos h1] at hf
          injection hf with hf1 hf2
          rw [decide_eq_false (by omega), cond_false, ixO_lt hkn, Option.bind_some, ← hf1, ref_Equal_eq, beq_self_eq_true, Bool.not_true, cond_false, wrap_succ (by omega)]
          exact Others_l0s_eq q m x hl hq l (k + n + 1) (by omega) hf2
        · rw [List.drop_eq_nil_of_le (by omega)] at hf
          cases hf
      · rw [cond_true]
        have hy : oth m y = false := by unfold oth; rw [ho]; rfl
        rw [List.filter_cons_of_neg (by rw [hy]; simp)] at hf
        exact Others_l0s_eq q m x hl hq l k hk hf
theorem touch_owner {m : Mod} {x : Rule} (h : mods_touches m x = true) : (x.Owner == m.Owner) = true := by
  rw [mods_touches] at h
  cases ho : x.Owner == m.Owner
  · rw [ho] at h
    simp only [Bool.false_and] at h
    revert h
    cases (bif (m.Kind == 2) then (m.Kind == 2) else (m.Kind == 3)) <;> cases (bif (m.Kind == 4) then (m.Kind == 4) else (m.Kind == 5)) <;> simp
  · rfl
theorem step_others (m : Mod) : ∀ (l : List Rule), (l.filterMap (stepM m)).filter (oth m) = l.filter (oth m)
  | [] => rfl
  | x :: l => by
      have ih := step_others m l
      rw [List.filterMap_cons]
      cases hs : stepM m x with
      | none =>
        have ht : mods_touches m x = true := by
          cases h : mods_touches m x
          · unfold stepM at hs; rw [h] at hs; cases hs
          · rfl
        have ho : oth m x = false := by unfold oth; rw [touch_owner ht]; rfl
        rw [List.filter_cons_of_neg (by rw [ho]; simp)]
        exact ih
      | some y =>
        rcases stepM_some hs with ⟨_, rfl⟩ | ⟨ht, rfl⟩
        · simp only [List.filter_cons, ih]
        · have ho : oth m x = false := by unfold oth; rw [touch_owner ht]; rfl
          have ho2 : oth m ({ x with Acts := m.Acts } : Rule) = false := ho
          simp only [List.filter_cons, ho, ho2, ih]
          rfl
theorem add_others (l : List Rule) (m : Mod) (room : Int) (hT : tableR l = true) (hS : mods_Sound m = true) (hk : (m.Kind == 1) = true) (h0 : (addM l m room).2 = 0) : ((addM l m room).1).filter (oth m) = l.filter (oth m) ∧ ((addM l m room).1).length ≤ l.length + 1 := by
  obtain ⟨h1, _⟩ := add_twice l m room hS hk h0
  obtain ⟨t1, t2⟩ := (tableR_iff l).1 hT
  rw [h1]
  have hsort : sortR (l ++ [mods_Rule m]) = putR l (mods_Rule m) := by
    have e : sortR (l ++ [mods_Rule m]) = putR (sortR l) (mods_Rule m) := by unfold sortR; rw [List.foldl_append]; rfl
    rw [e, sortR_self t2 t1]
  refine ⟨?_, by rw [hsort]; exact putR_len _ _⟩
  rw [hsort]
  obtain ⟨A, mid, B, e1, e2, e3, e4, e5⟩ := putR_split t2 (rule_of_mod m hS hk)
  have hr : oth m (mods_Rule m) = false := by simp [oth, mods_Rule]
  have hmid : mid.filter (oth m) = [] := by
    rw [List.filter_eq_nil_iff]
    intro y hy
    have hyl : y ∈ l := by rw [e1]; simp [hy]
    unfold addM at h0
    cases hf : l.find? (fun x => rule_Key x (mods_Rule m)) with
    | none =>
      have := List.find?_eq_none.1 hf y hyl
      rw [Key_key] at this
      exact absurd (decide_eq_true (e5 y hy)) this
    | some z =>
      rw [hf] at h0
      have hzl := List.mem_of_find?_eq_some hf
      have hz := List.find?_some hf
      rw [Key_key, decide_eq_true_eq] at hz
      have hyz : y = z := by
        have hk2 : y.key = z.key := (e5 y hy).trans hz.symm
        obtain ⟨i, hi, rfl⟩ := List.getElem_of_mem hyl
        obtain ⟨j, hj, rfl⟩ := List.getElem_of_mem hzl
        rcases Nat.lt_trichotomy i j with q | q | q
        · exact absurd (srt_get t2 q hj) (RLt.irr _ _ hk2)
        · subst q; rfl
        · exact absurd (srt_get t2 q hi) (RLt.irr _ _ hk2.symm)
      subst hyz
      cases ho : y.Owner != m.Owner
      · unfold oth
        have : (y.Owner == m.Owner) = true := by simpa using ho
        rw [this]; simp
      · simp only [ho] at h0
        cases h0
  rw [e2]
  conv => rhs; rw [e1]
  rw [List.filter_append, List.filter_append, List.filter_append, hmid, List.filter_cons_of_neg (by rw [hr]; simp)]
  rfl

end Go.Proofs.Ytockmihfoppkpaa

set_option linter.unusedVariables false
set_option linter.unusedSimpArgs false
set_option maxRecDepth 100000
set_option maxHeartbeats 4000000
namespace Go.Proofs.Ytockmihfoppkpaa
open Go.Sh
theorem ModsOthers_true (l : List Rule) (m : Mod) (_ : ∀ y ∈ l, Rule.wf y) (_ : Mod.wf m) (_ : l.length * 272 ≤ 140737488355328) (_ : m.Acts.length * 32 ≤ 140737488355328) : ∃ q, podestalaw07_ModsOthers_raw q l m = some true := by
  by_cases hl : l.length > 50
  · exact ⟨0, by
      rw [podestalaw07_ModsOthers_raw]
      simp only [List.length_map]
      rw [decide_eq_true (show ((l.length : Nat) : Int) > 50 by omega)]; rfl⟩
  have main : ∀ a : List Rule, applyM l m 1000 = (a, 0) → a.filter (oth m) = l.filter (oth m) → a.length ≤ l.length + 1 → ((m.Kind == 1) = true ∨ a.length ≤ l.length) → ∃ q, podestalaw07_ModsOthers_raw q l m = some true := by
    intro a ha hf h1 h2
    refine ⟨a.length + 1, ?_⟩
    rw [podestalaw07_ModsOthers_raw, applyO_eq (by omega), ha]
    simp only [List.length_map, Option.bind_some, bne_self_eq_false, cond_false]
    have h := Others_l0s_eq (a.length + 1) m (a, 0) (by show a.length ≤ 1000000; omega) (by show a.length < a.length + 1; omega) l 0 (Nat.zero_le _) (by rw [List.drop_zero]; exact hf.symm)
    rw [show ((0 : Nat) : Int) = 0 from rfl] at h
    rw [h, wrap_eq (by omega) (by omega), decide_eq_true (show ((a.length : Nat) : Int) ≤ (l.length : Int) + 1 by omega)]
    have h3 : ((m.Kind == 1) || decide (((a.length : Nat) : Int) ≤ ((l.length : Nat) : Int))) = true := by
      rcases h2 with h2 | h2
      · rw [h2]; rfl
      · rw [decide_eq_true (show ((a.length : Nat) : Int) ≤ ((l.length : Nat) : Int) by omega), Bool.or_true]
    rw [h3]
    cases (decide (((l.length : Nat) : Int) > 50)) || (decide (((m.Acts.length : Nat) : Int) > 50)) <;> rfl
  have fail : ∀ e : Int, (e != 0) = true → applyM l m 1000 = ([], e) → ∃ q, podestalaw07_ModsOthers_raw q l m = some true := by
    intro e he ha
    refine ⟨0, ?_⟩
    rw [podestalaw07_ModsOthers_raw, applyO_eq (by omega), ha]
    simp only [Option.bind_some, he, cond_true]
    cases (decide ((((List.map Rule.av l).length : Nat) : Int) > 50)) || (decide ((((List.map Act.av m.Acts).length : Nat) : Int) > 50)) <;> rfl
  cases hT : tableR l
  · exact fail 2 rfl (by unfold applyM; rw [hT]; rfl)
  cases hS : mods_Sound m
  · exact fail 2 rfl (by unfold applyM; rw [hT, hS]; rfl)
  cases hk : m.Kind == 1
  · exact main (l.filterMap (stepM m)) (by unfold applyM; rw [hT, hS, hk]; rfl) (step_others m l) (Nat.le_succ_of_le (List.length_filterMap_le _ _)) (.inr (List.length_filterMap_le _ _))
  · have e : applyM l m 1000 = addM l m 1000 := by unfold applyM; rw [hT, hS, hk]; rfl
    cases h0 : (addM l m 1000).2 != 0
    · have h0' : (addM l m 1000).2 = 0 := by simpa using h0
      obtain ⟨p1, p2⟩ := add_others l m 1000 hT hS hk h0'
      exact main (addM l m 1000).1 (by rw [e, ← h0']) p1 p2 (.inl hk)
    · refine fail (addM l m 1000).2 h0 ?_
      rw [e]
      revert h0
      unfold addM
      cases l.find? (fun x => rule_Key x (mods_Rule m)) with
      | some x =>
        simp only
        cases x.Owner != m.Owner
        · cases m.Check && l.any (fun x => mods_add_2 x (mods_Rule m)) <;> simp
        · simp
      | none =>
        simp only
        cases m.Check && l.any (fun x => mods_add_2 x (mods_Rule m))
        · cases decide ((l.length : Int) ≥ 1000) <;> simp
        · simp

end Go.Proofs.Ytockmihfoppkpaa

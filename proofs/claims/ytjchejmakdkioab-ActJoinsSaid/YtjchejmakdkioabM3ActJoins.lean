import Derived.Test.YtjchejmakdkioabM2ActJoins
set_option linter.unusedVariables false
set_option linter.unusedSimpArgs false
set_option maxRecDepth 100000
set_option maxHeartbeats 4000000
namespace Go.Proofs.Ytjchejmakdkioab
open Go.Sh
/-! ### podestalaw04.ActRuns: function 7 -/
noncomputable def podestalaw04_ActRuns_F : Go.Sh.Fn := ⟨7, bodyOf Try.f7, 77⟩
def podestalaw04_ActRuns_k1 : List Kd := [.pure, .pure]
def podestalaw04_ActRuns_k5 : List Kd := [.pure, .pure, .pure, .pure, .pure, .pure, .pure, .pure, .pure, .pure, .pure, .pure, .pure, .pure, .pure, .pure, .pure, .pure, .pure, .pure, .pure, .pure]
def podestalaw04_ActRuns_k4 : List Kd := [.pure, .pure, .pure, .pure, .pure, .pure, .pure, .pure, .pure, .pure, .pure, .pure, .pure, .pure, .pure, .pure, .pure, .pure, .pure, .pure, .pure]
def podestalaw04_ActRuns_k3 : List Kd := [.pure, .pure, .pure, .pure, .pure, .pure, .pure, .pure]
def podestalaw04_ActRuns_k2 : List Kd := [.pure, .pure, .loud, .pure, .loud, .pure, .pure, .pure, .pure, .pure]
def podestalaw04_ActRuns_k0 : List Kd := [.pure, .pure]
def podestalaw04_ActRuns_l0s (l : List Act) (h1 : List Int) : List Send → Nat → Option (Sum (Unit) (Bool))
  | [], i =>
    some (.inl ())
  | x :: rest, i =>
    (ixO ((runR l h1).1) ((i : Nat) : Int)).bind fun x1 =>
    (bif ((!((x.Port == x1.Port) && (x.Head == x1.Head))) || ((podestaref01_Head h1) && (!(podestaref01_Head x.Head)))) then
      some (.inr false)
    else
      podestalaw04_ActRuns_l0s l h1 rest (i + 1) )
theorem podestalaw04_ActRuns_l0_walk (l : List Act) (h1 : List Int) (f_l : Bool) (r : Bool) (c0 : Ctx) (hc0 : c0.m.length = 0) (res : Sum (Unit) (Bool)) (J : ∀ w : Unit, res = .inl w → AR Try.prog tab podestalaw04_ActRuns_F c0 (Rp tab.S c0 (.sc (.bool r)) []) [.code [1, 1, 1, 1, 1, 1]] [] [.row 53 (List.map Act.av (([] : List Act) ++ l)) 1000000 false]) (Jr : ∀ w, res = .inr w → w = r) :
    ∀ (rest : List Send) (i : Nat) (hd : ((runA (([] : List Act) ++ l) h1).1).drop i = rest) (H : podestalaw04_ActRuns_l0s l h1 rest i = some res), AR Try.prog tab podestalaw04_ActRuns_F c0 (Rp tab.S c0 (.sc (.bool r)) []) [.code [1, 1, 1, 1, 1, 0, 1, 0, 0], .loop [1, 1, 1, 1, 1, 0, 1, 0], .blk 0, .code [1, 1, 1, 1, 1, 1]] [(3, .ep [.arr .u64 12 h1] 0 none), (5, .sl 59 (List.map Send.av ((runA (([] : List Act) ++ l) h1).1)) false), (7, .sl 59 (List.map Send.av ((runR l h1).1)) false), (9, .sc (.int .i64 ((i : Nat) : Int)))] [.row 53 (List.map Act.av (([] : List Act) ++ l)) 1000000 false] := by
  have hG := tab_ok
  have hm := mixed
  intro rest
  induction rest with
  | nil =>
    intro i hd  H
    rw [podestalaw04_ActRuns_l0s] at H
    refine AR.facts 5 rfl fun hf => ?_
    have hlen : ((runA (([] : List Act) ++ l) h1).1).length ≤ 9223372036854775807 := by have hq := len_ok hf.2.1; rw [List.length_map] at hq; exact hq
    have hge : ((runA (([] : List Act) ++ l) h1).1).length ≤ i := List.drop_eq_nil_iff.1 hd
    have hc : (decide (((i : Nat) : Int) < (((List.map Send.av ((runA (([] : List Act) ++ l) h1).1)).length : Nat) : Int))) = false := by rw [List.length_map]; exact decide_eq_false (by omega)
    refine AR.seg hG hm 3 [3, 5, 7, 9, 52] (k' := [.code [1, 1, 1, 1, 1, 0, 1, 0, 0, 0, 1], .code [1, 1, 1, 1, 1, 0, 1, 0, 0, 1], .loop [1, 1, 1, 1, 1, 0, 1, 0], .blk 0, .code [1, 1, 1, 1, 1, 1]]) (t' := [(3, .ep [.arr .u64 12 h1] 0 none), (5, .sl 59 (List.map Send.av ((runA (([] : List Act) ++ l) h1).1)) false), (7, .sl 59 (List.map Send.av ((runR l h1).1)) false), (9, .sc (.int .i64 ((i : Nat) : Int))), (52, .sc (.bool (decide (((i : Nat) : Int) < (((List.map Send.av ((runA (([] : List Act) ++ l) h1).1)).length : Nat) : Int)))))]) (h' := [.row 53 (List.map Act.av (([] : List Act) ++ l)) 1000000 false]) (by kernel_rfl) ?_
    refine AR.cond (.tmp 52) (decide (((i : Nat) : Int) < (((List.map Send.av ((runA (([] : List Act) ++ l) h1).1)).length : Nat) : Int))) (by kernel_rfl) (by kernel_rfl) (fun hb => ?ht17) (fun hb => ?hf17)
    case ht17 => exact absurd (hb.symm.trans hc) (by decide)
    case hf17 =>
      refine AR.seg hG hm 1 [] (k' := [.code [1, 1, 1, 1, 1, 1]]) (t' := []) (h' := [.row 53 (List.map Act.av (([] : List Act) ++ l)) 1000000 false]) (by kernel_rfl) ?_
      refine AR.keep [] (t' := []) (by kernel_rfl) ?_
      exact J () (Option.some.inj H).symm
  | cons x rest ih =>
    intro i hd  H
    rw [podestalaw04_ActRuns_l0s] at H
    refine AR.facts 5 rfl fun hf => ?_
    have hlen : ((runA (([] : List Act) ++ l) h1).1).length ≤ 9223372036854775807 := by have hq := len_ok hf.2.1; rw [List.length_map] at hq; exact hq
    obtain ⟨hlt, hv_i, hd2⟩ := drop_cons hd
    have hc : (decide (((i : Nat) : Int) < (((List.map Send.av ((runA (([] : List Act) ++ l) h1).1)).length : Nat) : Int))) = true := by rw [List.length_map]; exact decide_eq_true (by omega)
    have hw : IntKind.i64.wrap (((i : Nat) : Int) + 1) = ((i + 1 : Nat) : Int) := wrapI_succ (by omega)
    refine AR.seg hG hm 3 [3, 5, 7, 9, 52] (k' := [.code [1, 1, 1, 1, 1, 0, 1, 0, 0, 0, 1], .code [1, 1, 1, 1, 1, 0, 1, 0, 0, 1], .loop [1, 1, 1, 1, 1, 0, 1, 0], .blk 0, .code [1, 1, 1, 1, 1, 1]]) (t' := [(3, .ep [.arr .u64 12 h1] 0 none), (5, .sl 59 (List.map Send.av ((runA (([] : List Act) ++ l) h1).1)) false), (7, .sl 59 (List.map Send.av ((runR l h1).1)) false), (9, .sc (.int .i64 ((i : Nat) : Int))), (52, .sc (.bool (decide (((i : Nat) : Int) < (((List.map Send.av ((runA (([] : List Act) ++ l) h1).1)).length : Nat) : Int)))))]) (h' := [.row 53 (List.map Act.av (([] : List Act) ++ l)) 1000000 false]) (by kernel_rfl) ?_
    refine AR.cond (.tmp 52) (decide (((i : Nat) : Int) < (((List.map Send.av ((runA (([] : List Act) ++ l) h1).1)).length : Nat) : Int))) (by kernel_rfl) (by kernel_rfl) (fun hb => ?ht18) (fun hb => ?hf18)
    case ht18 =>
      refine AR.seg hG hm 4 [3, 5, 7, 9] (k' := [.code [1, 1, 1, 1, 1, 0, 1, 0, 0, 1, 0, 0, 0], .code [1, 1, 1, 1, 1, 0, 1, 0, 0, 1, 0, 0, 1], .blk 1, .code [1, 1, 1, 1, 1, 0, 1, 0, 0, 1, 1], .loop [1, 1, 1, 1, 1, 0, 1, 0], .blk 0, .code [1, 1, 1, 1, 1, 1]]) (t' := [(3, .ep [.arr .u64 12 h1] 0 none), (5, .sl 59 (List.map Send.av ((runA (([] : List Act) ++ l) h1).1)) false), (7, .sl 59 (List.map Send.av ((runR l h1).1)) false), (9, .sc (.int .i64 ((i : Nat) : Int)))]) (h' := [.row 53 (List.map Act.av (([] : List Act) ++ l)) 1000000 false]) (by kernel_rfl) ?_
      refine AR.reg hm podestalaw04_ActRuns_k5 (by kernel_rfl) ?_
      refine DK.seg hG 2 [3, 5, 7, 9, 55, 56] (t' := [(3, .ep [.arr .u64 12 h1] 0 none), (5, .sl 59 (List.map Send.av ((runA (([] : List Act) ++ l) h1).1)) false), (7, .sl 59 (List.map Send.av ((runR l h1).1)) false), (9, .sc (.int .i64 ((i : Nat) : Int))), (55, .sl 59 (List.map Send.av ((runA (([] : List Act) ++ l) h1).1)) false), (56, .sc (.int .i64 ((i : Nat) : Int)))]) (h' := [.row 53 (List.map Act.av (([] : List Act) ++ l)) 1000000 false]) (by kernel_rfl) rfl ?_
      refine DK.op' [3, 5, 7, 9, 57] (t' := [(3, .ep [.arr .u64 12 h1] 0 none), (5, .sl 59 (List.map Send.av ((runA (([] : List Act) ++ l) h1).1)) false), (7, .sl 59 (List.map Send.av ((runR l h1).1)) false), (9, .sc (.int .i64 ((i : Nat) : Int))), (57, .ep [.sc (.int .i64 x.Port), .arr .u64 12 x.Head] 0 none)]) (h' := [.row 53 (List.map Act.av (([] : List Act) ++ l)) 1000000 false]) (LSpec.index' (r := Send.av x) (fs := [.sc (.int .i64 x.Port), .arr .u64 12 x.Head]) hG (rows := List.map Send.av ((runA (([] : List Act) ++ l) h1).1)) (j := ((i : Nat) : Int)) (by kernel_rfl) (ixO_map hv_i _) (by kernel_rfl)) (by kernel_rfl) rfl (by kernel_rfl) rfl ?_
      refine DK.seg hG 3 [3, 5, 7, 9, 58, 59, 60] (t' := [(3, .ep [.arr .u64 12 h1] 0 none), (5, .sl 59 (List.map Send.av ((runA (([] : List Act) ++ l) h1).1)) false), (7, .sl 59 (List.map Send.av ((runR l h1).1)) false), (9, .sc (.int .i64 ((i : Nat) : Int))), (58, Send.av x), (59, .sl 59 (List.map Send.av ((runR l h1).1)) false), (60, .sc (.int .i64 ((i : Nat) : Int)))]) (h' := [.row 53 (List.map Act.av (([] : List Act) ++ l)) 1000000 false]) (by kernel_rfl) rfl ?_
      obtain ⟨x1, hv, H⟩ := Option.bind_eq_some_iff.1 H
      refine DK.op' [3, 5, 7, 9, 58, 61] (t' := [(3, .ep [.arr .u64 12 h1] 0 none), (5, .sl 59 (List.map Send.av ((runA (([] : List Act) ++ l) h1).1)) false), (7, .sl 59 (List.map Send.av ((runR l h1).1)) false), (9, .sc (.int .i64 ((i : Nat) : Int))), (58, Send.av x), (61, .ep [.sc (.int .i64 x1.Port), .arr .u64 12 x1.Head] 0 none)]) (h' := [.row 53 (List.map Act.av (([] : List Act) ++ l)) 1000000 false]) (LSpec.index' (r := Send.av x1) (fs := [.sc (.int .i64 x1.Port), .arr .u64 12 x1.Head]) hG (rows := List.map Send.av ((runR l h1).1)) (j := ((i : Nat) : Int)) (by kernel_rfl) (ixO_map hv _) (by kernel_rfl)) (by kernel_rfl) rfl (by kernel_rfl) rfl ?_
      refine DK.seg hG 1 [3, 5, 7, 9, 58, 62] (t' := [(3, .ep [.arr .u64 12 h1] 0 none), (5, .sl 59 (List.map Send.av ((runA (([] : List Act) ++ l) h1).1)) false), (7, .sl 59 (List.map Send.av ((runR l h1).1)) false), (9, .sc (.int .i64 ((i : Nat) : Int))), (58, Send.av x), (62, Send.av x1)]) (h' := [.row 53 (List.map Act.av (([] : List Act) ++ l)) 1000000 false]) (by kernel_rfl) rfl ?_
      refine DK.op' [3, 5, 7, 9, 63] (t' := [(3, .ep [.arr .u64 12 h1] 0 none), (5, .sl 59 (List.map Send.av ((runA (([] : List Act) ++ l) h1).1)) false), (7, .sl 59 (List.map Send.av ((runR l h1).1)) false), (9, .sc (.int .i64 ((i : Nat) : Int))), (63, .sc (.bool (!((x.Port == x1.Port) && (x.Head == x1.Head)))))]) (h' := [.row 53 (List.map Act.av (([] : List Act) ++ l)) 1000000 false]) (LSpec.eq' 9 (r := (!((x.Port == x1.Port) && (x.Head == x1.Head)))) (by kernel_rfl)) (by kernel_rfl) rfl (by kernel_rfl) rfl ?_
      refine DK.seg hG 1 [3, 5, 7, 9, 64] (t' := [(3, .ep [.arr .u64 12 h1] 0 none), (5, .sl 59 (List.map Send.av ((runA (([] : List Act) ++ l) h1).1)) false), (7, .sl 59 (List.map Send.av ((runR l h1).1)) false), (9, .sc (.int .i64 ((i : Nat) : Int))), (64, .sc (.bool (!((x.Port == x1.Port) && (x.Head == x1.Head)))))]) (h' := [.row 53 (List.map Act.av (([] : List Act) ++ l)) 1000000 false]) (by kernel_rfl) rfl ?_
      refine DK.mux 64 (!((x.Port == x1.Port) && (x.Head == x1.Head))) (j := 22) (h' := [.row 53 (List.map Act.av (([] : List Act) ++ l)) 1000000 false]) (by kernel_rfl) (fun z => [(3, .ep [.arr .u64 12 h1] 0 none), (5, .sl 59 (List.map Send.av ((runA (([] : List Act) ++ l) h1).1)) false), (7, .sl 59 (List.map Send.av ((runR l h1).1)) false), (9, .sc (.int .i64 ((i : Nat) : Int))), (76, .sc (.bool (z || ((podestaref01_Head h1) && (!(podestaref01_Head x.Head))))))]) ?J20 (fun hb J => ?ht20) (fun hb J => ?hf20)
      case ht20 =>
        exact DK.seg hG 12 [3, 5, 7, 9, 76] (by kernel_rfl) rfl J
      case hf20 =>
        refine DK.seg hG 1 [3, 5, 7, 9, 64, 65] (t' := [(3, .ep [.arr .u64 12 h1] 0 none), (5, .sl 59 (List.map Send.av ((runA (([] : List Act) ++ l) h1).1)) false), (7, .sl 59 (List.map Send.av ((runR l h1).1)) false), (9, .sc (.int .i64 ((i : Nat) : Int))), (64, .sc (.bool false)), (65, .arr .u64 12 h1)]) (h' := [.row 53 (List.map Act.av (([] : List Act) ++ l)) 1000000 false]) (by kernel_rfl) rfl ?_
        refine DK.op' [3, 5, 7, 9, 64, 66] (t' := [(3, .ep [.arr .u64 12 h1] 0 none), (5, .sl 59 (List.map Send.av ((runA (([] : List Act) ++ l) h1).1)) false), (7, .sl 59 (List.map Send.av ((runR l h1).1)) false), (9, .sc (.int .i64 ((i : Nat) : Int))), (64, .sc (.bool false)), (66, .sc (.bool (podestaref01_Head h1)))]) (h' := [.row 53 (List.map Act.av (([] : List Act) ++ l)) 1000000 false]) (LSpec.callP' (podestaref01_Head_calls h1) (by kernel_rfl)) (by kernel_rfl) rfl (by kernel_rfl) rfl ?_
        refine DK.seg hG 1 [3, 5, 7, 9, 64, 67] (t' := [(3, .ep [.arr .u64 12 h1] 0 none), (5, .sl 59 (List.map Send.av ((runA (([] : List Act) ++ l) h1).1)) false), (7, .sl 59 (List.map Send.av ((runR l h1).1)) false), (9, .sc (.int .i64 ((i : Nat) : Int))), (64, .sc (.bool false)), (67, .sc (.bool (podestaref01_Head h1)))]) (h' := [.row 53 (List.map Act.av (([] : List Act) ++ l)) 1000000 false]) (by kernel_rfl) rfl ?_
        refine DK.mux 67 (podestaref01_Head h1) (j := 21) (h' := [.row 53 (List.map Act.av (([] : List Act) ++ l)) 1000000 false]) (by kernel_rfl) (fun z => [(3, .ep [.arr .u64 12 h1] 0 none), (5, .sl 59 (List.map Send.av ((runA (([] : List Act) ++ l) h1).1)) false), (7, .sl 59 (List.map Send.av ((runR l h1).1)) false), (9, .sc (.int .i64 ((i : Nat) : Int))), (64, .sc (.bool false)), (75, .sc (.bool (z && (!(podestaref01_Head x.Head)))))]) ?J21 (fun hb J => ?ht21) (fun hb J => ?hf21)
        case ht21 =>
          refine DK.seg hG 2 [3, 5, 7, 9, 64, 67, 68, 69] (t' := [(3, .ep [.arr .u64 12 h1] 0 none), (5, .sl 59 (List.map Send.av ((runA (([] : List Act) ++ l) h1).1)) false), (7, .sl 59 (List.map Send.av ((runR l h1).1)) false), (9, .sc (.int .i64 ((i : Nat) : Int))), (64, .sc (.bool false)), (67, .sc (.bool true)), (68, .sl 59 (List.map Send.av ((runA (([] : List Act) ++ l) h1).1)) false), (69, .sc (.int .i64 ((i : Nat) : Int)))]) (h' := [.row 53 (List.map Act.av (([] : List Act) ++ l)) 1000000 false]) (by kernel_rfl) rfl ?_
          refine DK.op' [3, 5, 7, 9, 64, 67, 70] (t' := [(3, .ep [.arr .u64 12 h1] 0 none), (5, .sl 59 (List.map Send.av ((runA (([] : List Act) ++ l) h1).1)) false), (7, .sl 59 (List.map Send.av ((runR l h1).1)) false), (9, .sc (.int .i64 ((i : Nat) : Int))), (64, .sc (.bool false)), (67, .sc (.bool true)), (70, .ep [.sc (.int .i64 x.Port), .arr .u64 12 x.Head] 0 none)]) (h' := [.row 53 (List.map Act.av (([] : List Act) ++ l)) 1000000 false]) (LSpec.index' (r := Send.av x) (fs := [.sc (.int .i64 x.Port), .arr .u64 12 x.Head]) hG (rows := List.map Send.av ((runA (([] : List Act) ++ l) h1).1)) (j := ((i : Nat) : Int)) (by kernel_rfl) (ixO_map hv_i _) (by kernel_rfl)) (by kernel_rfl) rfl (by kernel_rfl) rfl ?_
          refine DK.seg hG 2 [3, 5, 7, 9, 64, 67, 72] (t' := [(3, .ep [.arr .u64 12 h1] 0 none), (5, .sl 59 (List.map Send.av ((runA (([] : List Act) ++ l) h1).1)) false), (7, .sl 59 (List.map Send.av ((runR l h1).1)) false), (9, .sc (.int .i64 ((i : Nat) : Int))), (64, .sc (.bool false)), (67, .sc (.bool true)), (72, .arr .u64 12 x.Head)]) (h' := [.row 53 (List.map Act.av (([] : List Act) ++ l)) 1000000 false]) (by kernel_rfl) rfl ?_
          refine DK.op' [3, 5, 7, 9, 64, 67, 73] (t' := [(3, .ep [.arr .u64 12 h1] 0 none), (5, .sl 59 (List.map Send.av ((runA (([] : List Act) ++ l) h1).1)) false), (7, .sl 59 (List.map Send.av ((runR l h1).1)) false), (9, .sc (.int .i64 ((i : Nat) : Int))), (64, .sc (.bool false)), (67, .sc (.bool true)), (73, .sc (.bool (podestaref01_Head x.Head)))]) (h' := [.row 53 (List.map Act.av (([] : List Act) ++ l)) 1000000 false]) (LSpec.callP' (podestaref01_Head_calls x.Head) (by kernel_rfl)) (by kernel_rfl) rfl (by kernel_rfl) rfl ?_
          exact DK.seg hG 2 [3, 5, 7, 9, 64, 75] (by kernel_rfl) rfl J
        case hf21 =>
          exact DK.seg hG 8 [3, 5, 7, 9, 64, 75] (by kernel_rfl) rfl J
        exact DK.seg hG 1 [3, 5, 7, 9, 76] (by kernel_rfl) rfl J
      refine DK.done (by kernel_rfl) (by kernel_rfl) ?_
      refine AR.cond (.tmp 76) ((!((x.Port == x1.Port) && (x.Head == x1.Head))) || ((podestaref01_Head h1) && (!(podestaref01_Head x.Head)))) (by kernel_rfl) (by kernel_rfl) (fun hb => ?ht22) (fun hb => ?hf22)
      case ht22 =>
        replace H := cond_t hb H
        refine AR.seg hG hm 2 [4] (k' := [.code [1, 1, 1, 1, 1, 0, 1, 0, 0, 1, 0, 0, 1, 0, 1], .blk 1, .code [1, 1, 1, 1, 1, 0, 1, 0, 0, 1, 1], .loop [1, 1, 1, 1, 1, 0, 1, 0], .blk 0, .code [1, 1, 1, 1, 1, 1]]) (t' := [(4, .sc (.bool false))]) (h' := [.row 53 (List.map Act.av (([] : List Act) ++ l)) 1000000 false]) (by kernel_rfl) ?_
        obtain rfl := Option.some.inj H
        obtain rfl := Jr _ rfl
        exact AR.ret0 (fn := Try.f7) hG Try.func7 (by kernel_rfl) hc0 (r0 := .sc (.bool false)) (by kernel_rfl) (WkV.refl _)
      case hf22 =>
        replace H := cond_f hb H
        refine AR.seg hG hm 3 [3, 5, 7, 9] (k' := [.loop [1, 1, 1, 1, 1, 0, 1, 0], .blk 0, .code [1, 1, 1, 1, 1, 1]]) (t' := [(3, .ep [.arr .u64 12 h1] 0 none), (5, .sl 59 (List.map Send.av ((runA (([] : List Act) ++ l) h1).1)) false), (7, .sl 59 (List.map Send.av ((runR l h1).1)) false), (9, .sc (.int .i64 (IntKind.i64.wrap (((i : Nat) : Int) + 1))))]) (h' := [.row 53 (List.map Act.av (([] : List Act) ++ l)) 1000000 false]) (by kernel_rfl) ?_
        refine AR.keep [3, 5, 7, 9] (t' := [(3, .ep [.arr .u64 12 h1] 0 none), (5, .sl 59 (List.map Send.av ((runA (([] : List Act) ++ l) h1).1)) false), (7, .sl 59 (List.map Send.av ((runR l h1).1)) false), (9, .sc (.int .i64 (IntKind.i64.wrap (((i : Nat) : Int) + 1))))]) (by kernel_rfl) ?_
        refine AR.loop_round ?_
        rw [hw]
        exact ih (i + 1) hd2 H
    case hf18 => exact absurd (hc.symm.trans hb) (by decide)

def podestalaw04_ActRuns_raw (l : List Act) (h1 : List Int) : Option (Bool) :=
  (bif (decide ((((List.map Act.av l).length : Nat) : Int) > 50)) then
    some true
  else
    fitO (([] : List Act).length + l.length) 32 (
    (bif ((((act_Sound l) != (podestaref04_Acts l)) || ((runA (([] : List Act) ++ l) h1).2 != (runR l h1).2)) || ((((List.map Send.av ((runA (([] : List Act) ++ l) h1).1)).length : Nat) : Int) != (((List.map Send.av ((runR l h1).1)).length : Nat) : Int))) then
      some false
    else
      loopO (podestalaw04_ActRuns_l0s l h1 ((runA (([] : List Act) ++ l) h1).1) 0) fun v =>
      some true)))
theorem podestalaw04_ActRuns_walk (l : List Act) (h1 : List Int) (f_l : Bool) (r : Bool) (H : podestalaw04_ActRuns_raw l h1 = some r) :
    ACalls Try.prog tab.S 7 [.sl 53 (List.map Act.av l) f_l, .arr .u64 12 h1] [] (.sc (.bool r)) [] := by
  have hG := tab_ok
  have hm := mixed
  refine ACalls.of_AR (G := tab) podestalaw04_ActRuns_F (fn := Try.f7) Try.func7 (by kernel_rfl) (by kernel_rfl) (by kernel_rfl) (Nat.le_of_ble_eq_true (by kernel_rfl)) ?_
  intro c0 hc0
  replace hc0 : c0.m.length = 0 := hc0
  rw [podestalaw04_ActRuns_raw] at H
  refine AR.seg hG hm 1 [0, 1] (k' := [.code [0], .code [1]]) (t' := [(0, .sl 53 (List.map Act.av l) f_l), (1, .arr .u64 12 h1)]) (h' := []) (by kernel_rfl) ?_
  refine AR.reg hm podestalaw04_ActRuns_k0 (by kernel_rfl) ?_
  refine DK.op' [0, 3] (t' := [(0, .sl 53 (List.map Act.av l) f_l), (3, .ep [.arr .u64 12 h1] 0 none)]) (h' := []) (LSpec.boxP (fs := [.arr .u64 12 h1]) (by kernel_rfl)) (by kernel_rfl) rfl (by kernel_rfl) rfl ?_
  refine DK.seg hG 1 [0, 3] (t' := [(0, .sl 53 (List.map Act.av l) f_l), (3, .ep [.arr .u64 12 h1] 0 none)]) (h' := []) (by kernel_rfl) rfl ?_
  refine DK.done (by kernel_rfl) (by kernel_rfl) ?_
  refine AR.seg hG hm 3 [0, 3, 12] (k' := [.code [1, 0, 1], .code [1, 1]]) (t' := [(0, .sl 53 (List.map Act.av l) f_l), (3, .ep [.arr .u64 12 h1] 0 none), (12, .sc (.bool (decide ((((List.map Act.av l).length : Nat) : Int) > 50))))]) (h' := []) (by kernel_rfl) ?_
  refine AR.cond (.tmp 12) (decide ((((List.map Act.av l).length : Nat) : Int) > 50)) (by kernel_rfl) (by kernel_rfl) (fun hb => ?ht1) (fun hb => ?hf1)
  case ht1 =>
    replace H := cond_t hb H
    refine AR.seg hG hm 1 [] (k' := [.code [1, 0, 1, 0, 0], .code [1, 0, 1, 0, 1], .code [1, 1]]) (t' := []) (h' := []) (by kernel_rfl) ?_
    refine AR.reg hm podestalaw04_ActRuns_k1 (by kernel_rfl) ?_
    refine DK.op' [13] (t' := [(13, .sc (.bool true))]) (h' := []) (LSpec.callP' (podestalaw04_answers_ok) (by kernel_rfl)) (by kernel_rfl) rfl (by kernel_rfl) rfl ?_
    refine DK.seg hG 1 [4] (t' := [(4, .sc (.bool true))]) (h' := []) (by kernel_rfl) rfl ?_
    refine DK.done (by kernel_rfl) (by kernel_rfl) ?_
    obtain rfl := Option.some.inj H
    exact AR.ret0 (fn := Try.f7) hG Try.func7 (by kernel_rfl) hc0 (r0 := .sc (.bool true)) (by kernel_rfl) (WkV.refl _)
  case hf1 =>
    replace H := cond_f hb H
    refine AR.seg hG hm 2 [0, 3] (k' := [.code [1, 1, 0], .code [1, 1, 1]]) (t' := [(0, .sl 53 (List.map Act.av l) f_l), (3, .ep [.arr .u64 12 h1] 0 none)]) (h' := []) (by kernel_rfl) ?_
    refine AR.reg hm podestalaw04_ActRuns_k2 (by kernel_rfl) ?_
    refine DK.seg hG 2 [0, 3, 15, 16] (t' := [(0, .sl 53 (List.map Act.av l) f_l), (3, .ep [.arr .u64 12 h1] 0 none), (15, .sl 53 (List.map Act.av []) true), (16, .sl 53 (List.map Act.av l) f_l)]) (h' := []) (by kernel_rfl) rfl ?_
    obtain ⟨hfit, H⟩ := fitO_some H
    refine DK.op' [0, 3, 17] (t' := [(0, .sl 53 (List.map Act.av l) f_l), (3, .ep [.arr .u64 12 h1] 0 none), (17, .own 0 1000000)]) (h' := [.row 53 (List.map Act.av (([] : List Act) ++ l)) 1000000 true]) (LSpec.appendB hG Act.av ([] : List Act) l 53 32 rfl hfit (by kernel_rfl)) (by kernel_rfl) (by kernel_rfl) (by kernel_rfl) rfl ?_
    refine DK.seg hG 1 [0, 3, 17, 18] (t' := [(0, .sl 53 (List.map Act.av l) f_l), (3, .ep [.arr .u64 12 h1] 0 none), (17, .own 0 1000000), (18, .arr .u64 12 h1)]) (h' := [.row 53 (List.map Act.av (([] : List Act) ++ l)) 1000000 true]) (by kernel_rfl) rfl ?_
    refine DK.op' [0, 3, 19] (t' := [(0, .sl 53 (List.map Act.av l) f_l), (3, .ep [.arr .u64 12 h1] 0 none), (19, .tup [.sl 59 (List.map Send.av ((runA (([] : List Act) ++ l) h1).1)) false, .sc (.bool ((runA (([] : List Act) ++ l) h1).2))])]) (h' := [.row 53 (List.map Act.av (([] : List Act) ++ l)) 1000000 false]) (LSpec.callC' [0] (act_Run_ok (([] : List Act) ++ l) h1 false) (by kernel_rfl) (by kernel_rfl)) (by kernel_rfl) (by kernel_rfl) (by kernel_rfl) rfl ?_
    refine DK.seg hG 5 [0, 3, 5, 6] (t' := [(0, .sl 53 (List.map Act.av l) f_l), (3, .ep [.arr .u64 12 h1] 0 none), (5, .sl 59 (List.map Send.av ((runA (([] : List Act) ++ l) h1).1)) false), (6, .sc (.bool ((runA (([] : List Act) ++ l) h1).2)))]) (h' := [.row 53 (List.map Act.av (([] : List Act) ++ l)) 1000000 false]) (by kernel_rfl) rfl ?_
    refine DK.done (by kernel_rfl) (by kernel_rfl) ?_
    refine AR.seg hG hm 1 [0, 3, 5, 6] (k' := [.code [1, 1, 1, 0], .code [1, 1, 1, 1]]) (t' := [(0, .sl 53 (List.map Act.av l) f_l), (3, .ep [.arr .u64 12 h1] 0 none), (5, .sl 59 (List.map Send.av ((runA (([] : List Act) ++ l) h1).1)) false), (6, .sc (.bool ((runA (([] : List Act) ++ l) h1).2)))]) (h' := [.row 53 (List.map Act.av (([] : List Act) ++ l)) 1000000 false]) (by kernel_rfl) ?_
    refine AR.reg hm podestalaw04_ActRuns_k3 (by kernel_rfl) ?_
    refine DK.seg hG 2 [0, 3, 5, 6, 23, 24] (t' := [(0, .sl 53 (List.map Act.av l) f_l), (3, .ep [.arr .u64 12 h1] 0 none), (5, .sl 59 (List.map Send.av ((runA (([] : List Act) ++ l) h1).1)) false), (6, .sc (.bool ((runA (([] : List Act) ++ l) h1).2))), (23, .sl 53 (List.map Act.av l) f_l), (24, .arr .u64 12 h1)]) (h' := [.row 53 (List.map Act.av (([] : List Act) ++ l)) 1000000 false]) (by kernel_rfl) rfl ?_
    refine DK.op' [0, 3, 5, 6, 25] (t' := [(0, .sl 53 (List.map Act.av l) f_l), (3, .ep [.arr .u64 12 h1] 0 none), (5, .sl 59 (List.map Send.av ((runA (([] : List Act) ++ l) h1).1)) false), (6, .sc (.bool ((runA (([] : List Act) ++ l) h1).2))), (25, .tup [.sl 59 (List.map Send.av ((runR l h1).1)) false, .sc (.bool ((runR l h1).2))])]) (h' := [.row 53 (List.map Act.av (([] : List Act) ++ l)) 1000000 false]) (LSpec.callP' (ref_Run_ok l h1 f_l) (by kernel_rfl)) (by kernel_rfl) rfl (by kernel_rfl) rfl ?_
    refine DK.seg hG 5 [0, 3, 5, 6, 7, 8] (t' := [(0, .sl 53 (List.map Act.av l) f_l), (3, .ep [.arr .u64 12 h1] 0 none), (5, .sl 59 (List.map Send.av ((runA (([] : List Act) ++ l) h1).1)) false), (6, .sc (.bool ((runA (([] : List Act) ++ l) h1).2))), (7, .sl 59 (List.map Send.av ((runR l h1).1)) false), (8, .sc (.bool ((runR l h1).2)))]) (h' := [.row 53 (List.map Act.av (([] : List Act) ++ l)) 1000000 false]) (by kernel_rfl) rfl ?_
    refine DK.done (by kernel_rfl) (by kernel_rfl) ?_
    refine AR.seg hG hm 2 [0, 3, 5, 6, 7, 8] (k' := [.code [1, 1, 1, 1, 0, 0], .code [1, 1, 1, 1, 0, 1], .code [1, 1, 1, 1, 1]]) (t' := [(0, .sl 53 (List.map Act.av l) f_l), (3, .ep [.arr .u64 12 h1] 0 none), (5, .sl 59 (List.map Send.av ((runA (([] : List Act) ++ l) h1).1)) false), (6, .sc (.bool ((runA (([] : List Act) ++ l) h1).2))), (7, .sl 59 (List.map Send.av ((runR l h1).1)) false), (8, .sc (.bool ((runR l h1).2)))]) (h' := [.row 53 (List.map Act.av (([] : List Act) ++ l)) 1000000 false]) (by kernel_rfl) ?_
    refine AR.reg hm podestalaw04_ActRuns_k4 (by kernel_rfl) ?_
    refine DK.op' [0, 3, 5, 6, 7, 8, 28] (t' := [(0, .sl 53 (List.map Act.av l) f_l), (3, .ep [.arr .u64 12 h1] 0 none), (5, .sl 59 (List.map Send.av ((runA (([] : List Act) ++ l) h1).1)) false), (6, .sc (.bool ((runA (([] : List Act) ++ l) h1).2))), (7, .sl 59 (List.map Send.av ((runR l h1).1)) false), (8, .sc (.bool ((runR l h1).2))), (28, .sc (.bool true))]) (h' := [.row 53 (List.map Act.av (([] : List Act) ++ l)) 1000000 false]) (LSpec.callP' (podestalaw04_answers_ok) (by kernel_rfl)) (by kernel_rfl) rfl (by kernel_rfl) rfl ?_
    refine DK.seg hG 3 [0, 3, 5, 6, 7, 8, 30, 31] (t' := [(0, .sl 53 (List.map Act.av l) f_l), (3, .ep [.arr .u64 12 h1] 0 none), (5, .sl 59 (List.map Send.av ((runA (([] : List Act) ++ l) h1).1)) false), (6, .sc (.bool ((runA (([] : List Act) ++ l) h1).2))), (7, .sl 59 (List.map Send.av ((runR l h1).1)) false), (8, .sc (.bool ((runR l h1).2))), (30, .sc (.bool false)), (31, .sl 53 (List.map Act.av l) f_l)]) (h' := [.row 53 (List.map Act.av (([] : List Act) ++ l)) 1000000 false]) (by kernel_rfl) rfl ?_
    refine DK.op' [0, 3, 5, 6, 7, 8, 30, 32] (t' := [(0, .sl 53 (List.map Act.av l) f_l), (3, .ep [.arr .u64 12 h1] 0 none), (5, .sl 59 (List.map Send.av ((runA (([] : List Act) ++ l) h1).1)) false), (6, .sc (.bool ((runA (([] : List Act) ++ l) h1).2))), (7, .sl 59 (List.map Send.av ((runR l h1).1)) false), (8, .sc (.bool ((runR l h1).2))), (30, .sc (.bool false)), (32, .sc (.bool (act_Sound l)))]) (h' := [.row 53 (List.map Act.av (([] : List Act) ++ l)) 1000000 false]) (LSpec.callP' (act_Sound_calls l f_l) (by kernel_rfl)) (by kernel_rfl) rfl (by kernel_rfl) rfl ?_
    refine DK.seg hG 1 [3, 5, 6, 7, 8, 30, 32, 33] (t' := [(3, .ep [.arr .u64 12 h1] 0 none), (5, .sl 59 (List.map Send.av ((runA (([] : List Act) ++ l) h1).1)) false), (6, .sc (.bool ((runA (([] : List Act) ++ l) h1).2))), (7, .sl 59 (List.map Send.av ((runR l h1).1)) false), (8, .sc (.bool ((runR l h1).2))), (30, .sc (.bool false)), (32, .sc (.bool (act_Sound l))), (33, .sl 53 (List.map Act.av l) f_l)]) (h' := [.row 53 (List.map Act.av (([] : List Act) ++ l)) 1000000 false]) (by kernel_rfl) rfl ?_
    refine DK.op' [3, 5, 6, 7, 8, 30, 32, 34] (t' := [(3, .ep [.arr .u64 12 h1] 0 none), (5, .sl 59 (List.map Send.av ((runA (([] : List Act) ++ l) h1).1)) false), (6, .sc (.bool ((runA (([] : List Act) ++ l) h1).2))), (7, .sl 59 (List.map Send.av ((runR l h1).1)) false), (8, .sc (.bool ((runR l h1).2))), (30, .sc (.bool false)), (32, .sc (.bool (act_Sound l))), (34, .sc (.bool (podestaref04_Acts l)))]) (h' := [.row 53 (List.map Act.av (([] : List Act) ++ l)) 1000000 false]) (LSpec.callP' (podestaref04_Acts_calls l f_l) (by kernel_rfl)) (by kernel_rfl) rfl (by kernel_rfl) rfl ?_
    refine DK.seg hG 3 [3, 5, 6, 7, 8, 37] (t' := [(3, .ep [.arr .u64 12 h1] 0 none), (5, .sl 59 (List.map Send.av ((runA (([] : List Act) ++ l) h1).1)) false), (6, .sc (.bool ((runA (([] : List Act) ++ l) h1).2))), (7, .sl 59 (List.map Send.av ((runR l h1).1)) false), (8, .sc (.bool ((runR l h1).2))), (37, .sc (.bool ((act_Sound l) != (podestaref04_Acts l))))]) (h' := [.row 53 (List.map Act.av (([] : List Act) ++ l)) 1000000 false]) (by kernel_rfl) rfl ?_
    refine DK.mux 37 ((act_Sound l) != (podestaref04_Acts l)) (j := 14) (h' := [.row 53 (List.map Act.av (([] : List Act) ++ l)) 1000000 false]) (by kernel_rfl) (fun z => [(3, .ep [.arr .u64 12 h1] 0 none), (5, .sl 59 (List.map Send.av ((runA (([] : List Act) ++ l) h1).1)) false), (7, .sl 59 (List.map Send.av ((runR l h1).1)) false), (41, .sc (.bool (z || ((runA (([] : List Act) ++ l) h1).2 != (runR l h1).2))))]) ?J2 (fun hb J => ?ht2) (fun hb J => ?hf2)
    case ht2 =>
      exact DK.seg hG 4 [3, 5, 7, 41] (by kernel_rfl) rfl J
    case hf2 =>
      exact DK.seg hG 4 [3, 5, 7, 41] (by kernel_rfl) rfl J
    refine DK.seg hG 1 [3, 5, 7, 42] (t' := [(3, .ep [.arr .u64 12 h1] 0 none), (5, .sl 59 (List.map Send.av ((runA (([] : List Act) ++ l) h1).1)) false), (7, .sl 59 (List.map Send.av ((runR l h1).1)) false), (42, .sc (.bool (((act_Sound l) != (podestaref04_Acts l)) || ((runA (([] : List Act) ++ l) h1).2 != (runR l h1).2))))]) (h' := [.row 53 (List.map Act.av (([] : List Act) ++ l)) 1000000 false]) (by kernel_rfl) rfl ?_
    refine DK.mux 42 (((act_Sound l) != (podestaref04_Acts l)) || ((runA (([] : List Act) ++ l) h1).2 != (runR l h1).2)) (j := 21) (h' := [.row 53 (List.map Act.av (([] : List Act) ++ l)) 1000000 false]) (by kernel_rfl) (fun z => [(3, .ep [.arr .u64 12 h1] 0 none), (5, .sl 59 (List.map Send.av ((runA (([] : List Act) ++ l) h1).1)) false), (7, .sl 59 (List.map Send.av ((runR l h1).1)) false), (48, .sc (.bool (z || ((((List.map Send.av ((runA (([] : List Act) ++ l) h1).1)).length : Nat) : Int) != (((List.map Send.av ((runR l h1).1)).length : Nat) : Int)))))]) ?J3 (fun hb J => ?ht3) (fun hb J => ?hf3)
    case ht3 =>
      exact DK.seg hG 6 [3, 5, 7, 48] (by kernel_rfl) rfl J
    case hf3 =>
      exact DK.seg hG 6 [3, 5, 7, 48] (by kernel_rfl) rfl J
    refine DK.done (by kernel_rfl) (by kernel_rfl) ?_
    refine AR.cond (.tmp 48) ((((act_Sound l) != (podestaref04_Acts l)) || ((runA (([] : List Act) ++ l) h1).2 != (runR l h1).2)) || ((((List.map Send.av ((runA (([] : List Act) ++ l) h1).1)).length : Nat) : Int) != (((List.map Send.av ((runR l h1).1)).length : Nat) : Int))) (by kernel_rfl) (by kernel_rfl) (fun hb => ?ht4) (fun hb => ?hf4)
    case ht4 =>
      replace H := cond_t hb H
      refine AR.seg hG hm 2 [4] (k' := [.code [1, 1, 1, 1, 0, 1, 0, 1], .code [1, 1, 1, 1, 1]]) (t' := [(4, .sc (.bool false))]) (h' := [.row 53 (List.map Act.av (([] : List Act) ++ l)) 1000000 false]) (by kernel_rfl) ?_
      obtain rfl := Option.some.inj H
      exact AR.ret0 (fn := Try.f7) hG Try.func7 (by kernel_rfl) hc0 (r0 := .sc (.bool false)) (by kernel_rfl) (WkV.refl _)
    case hf4 =>
      replace H := cond_f hb H
      refine AR.seg hG hm 5 [3, 5, 7, 9] (k' := [.code [1, 1, 1, 1, 1, 0, 1, 0], .blk 0, .code [1, 1, 1, 1, 1, 1]]) (t' := [(3, .ep [.arr .u64 12 h1] 0 none), (5, .sl 59 (List.map Send.av ((runA (([] : List Act) ++ l) h1).1)) false), (7, .sl 59 (List.map Send.av ((runR l h1).1)) false), (9, .sc (.int .i64 0))]) (h' := [.row 53 (List.map Act.av (([] : List Act) ++ l)) 1000000 false]) (by kernel_rfl) ?_
      rcases loopO_some H with ⟨v, hv, H⟩ | hv
      case inr =>
        refine AR.into (by kernel_rfl) ?_
        exact podestalaw04_ActRuns_l0_walk l h1 f_l _ c0 hc0 (.inr _) (fun _ e => by cases e) (fun _ e => (Sum.inr.inj e).symm) ((runA (([] : List Act) ++ l) h1).1) 0 rfl hv
      refine AR.into (by kernel_rfl) ?_
      refine podestalaw04_ActRuns_l0_walk l h1 f_l r c0 hc0 (.inl v) (fun w e => ?_) (fun _ e => by cases e) ((runA (([] : List Act) ++ l) h1).1) 0 rfl hv
      have e := Sum.inl.inj e
      subst e
      refine AR.seg hG hm 2 [4] (k' := [.code [1, 1, 1, 1, 1, 1, 1]]) (t' := [(4, .sc (.bool true))]) (h' := [.row 53 (List.map Act.av (([] : List Act) ++ l)) 1000000 false]) (by kernel_rfl) ?_
      obtain rfl := Option.some.inj H
      exact AR.ret0 (fn := Try.f7) hG Try.func7 (by kernel_rfl) hc0 (r0 := .sc (.bool true)) (by kernel_rfl) (WkV.refl _)

/-! ### podestalaw04.ActPlain: function 9 -/
noncomputable def podestalaw04_ActPlain_F : Go.Sh.Fn := ⟨9, bodyOf Try.f9, 83⟩
def podestalaw04_ActPlain_k0 : List Kd := [.pure, .pure]
def podestalaw04_ActPlain_k1 : List Kd := [.pure, .pure, .pure, .pure, .pure, .pure, .pure, .pure, .pure, .pure, .loud, .pure]
def podestalaw04_ActPlain_k5 : List Kd := [.pure, .pure, .pure, .pure, .pure, .pure, .pure, .pure, .pure, .pure, .pure, .pure, .pure, .pure, .pure, .pure, .pure, .pure, .pure, .read, .pure, .pure]
def podestalaw04_ActPlain_k6 : List Kd := [.pure, .pure]
def podestalaw04_ActPlain_k4 : List Kd := [.pure, .pure, .pure, .pure, .pure, .pure, .pure, .pure, .pure, .pure]
def podestalaw04_ActPlain_k3 : List Kd := [.pure, .read, .loud, .pure, .pure, .pure, .pure, .pure]
def podestalaw04_ActPlain_k2 : List Kd := [.pure, .pure, .pure, .loud, .pure]
def podestalaw04_ActPlain_k9 : List Kd := [.pure, .pure, .pure, .pure, .pure, .pure, .pure, .pure, .pure, .pure, .pure, .pure, .pure, .pure, .pure, .pure, .pure, .pure, .pure, .read, .pure, .pure]
def podestalaw04_ActPlain_k10 : List Kd := [.pure, .pure]
def podestalaw04_ActPlain_k8 : List Kd := [.pure, .pure, .pure, .pure, .pure, .pure, .pure, .pure, .pure, .pure]
def podestalaw04_ActPlain_k7 : List Kd := [.pure, .read, .loud, .pure, .pure, .pure, .pure, .pure]
def podestalaw04_ActPlain_l0s : List Int → List Act → Option ((List Act))
  | [], l =>
    some l
  | x :: rest, l =>
    fitO (l.length + [({ Kind := 1, Port := (IntKind.i64.wrap (1 + (IntKind.i64.wrap (Int.tmod x 16)))), Field := 0, Value := 0 } : Act)].length) 32 (
    podestalaw04_ActPlain_l0s rest (l ++ [({ Kind := 1, Port := (IntKind.i64.wrap (1 + (IntKind.i64.wrap (Int.tmod x 16)))), Field := 0, Value := 0 } : Act)]))
theorem podestalaw04_ActPlain_l0_walk (ports : List Int) (tells : Bool) (h1 : List Int) (f_ports : Bool) (r : Bool) (c0 : Ctx) (hc0 : c0.m.length = 0) (res : (List Act)) (J : AR Try.prog tab podestalaw04_ActPlain_F c0 (Rp tab.S c0 (.sc (.bool r)) []) [.code [1, 1, 1, 1]] [(0, .sl 5 (List.map (intA .u8) ports) f_ports), (1, .sc (.bool tells)), (5, .ptr 0 0 none), (7, .own 1 1000000)] [.box 43 [.arr .u64 12 h1], .row 53 (List.map Act.av res) 1000000 true]) :
    ∀ (rest : List Int) (i : Nat) (hd : ports.drop i = rest) (l : List Act) (H : podestalaw04_ActPlain_l0s rest l = some res), AR Try.prog tab podestalaw04_ActPlain_F c0 (Rp tab.S c0 (.sc (.bool r)) []) [.code [1, 1, 1, 0, 1, 0, 0], .loop [1, 1, 1, 0, 1, 0], .blk 0, .code [1, 1, 1, 1]] [(0, .sl 5 (List.map (intA .u8) ports) f_ports), (1, .sc (.bool tells)), (5, .ptr 0 0 none), (7, .own 1 1000000), (8, .sc (.int .i64 ((i : Nat) : Int)))] [.box 43 [.arr .u64 12 h1], .row 53 (List.map Act.av l) 1000000 true] := by
  have hG := tab_ok
  have hm := mixed
  intro rest
  induction rest with
  | nil =>
    intro i hd l H
    rw [podestalaw04_ActPlain_l0s] at H
    refine AR.facts 0 rfl fun hf => ?_
    have hlen : ports.length ≤ 9223372036854775807 := by have hq := len_ok hf.2.1; rw [List.length_map] at hq; exact hq
    have hge : ports.length ≤ i := List.drop_eq_nil_iff.1 hd
    have hc : (decide (((i : Nat) : Int) < (((List.map (intA .u8) ports).length : Nat) : Int))) = false := by rw [List.length_map]; exact decide_eq_false (by omega)
    refine AR.seg hG hm 3 [0, 1, 5, 7, 8, 19] (k' := [.code [1, 1, 1, 0, 1, 0, 0, 0, 1], .code [1, 1, 1, 0, 1, 0, 0, 1], .loop [1, 1, 1, 0, 1, 0], .blk 0, .code [1, 1, 1, 1]]) (t' := [(0, .sl 5 (List.map (intA .u8) ports) f_ports), (1, .sc (.bool tells)), (5, .ptr 0 0 none), (7, .own 1 1000000), (8, .sc (.int .i64 ((i : Nat) : Int))), (19, .sc (.bool (decide (((i : Nat) : Int) < (((List.map (intA .u8) ports).length : Nat) : Int)))))]) (h' := [.box 43 [.arr .u64 12 h1], .row 53 (List.map Act.av l) 1000000 true]) (by kernel_rfl) ?_
    refine AR.cond (.tmp 19) (decide (((i : Nat) : Int) < (((List.map (intA .u8) ports).length : Nat) : Int))) (by kernel_rfl) (by kernel_rfl) (fun hb => ?ht6) (fun hb => ?hf6)
    case ht6 => exact absurd (hb.symm.trans hc) (by decide)
    case hf6 =>
      refine AR.seg hG hm 1 [0, 1, 5, 7] (k' := [.code [1, 1, 1, 1]]) (t' := [(0, .sl 5 (List.map (intA .u8) ports) f_ports), (1, .sc (.bool tells)), (5, .ptr 0 0 none), (7, .own 1 1000000)]) (h' := [.box 43 [.arr .u64 12 h1], .row 53 (List.map Act.av l) 1000000 true]) (by kernel_rfl) ?_
      refine AR.keep [0, 1, 5, 7] (t' := [(0, .sl 5 (List.map (intA .u8) ports) f_ports), (1, .sc (.bool tells)), (5, .ptr 0 0 none), (7, .own 1 1000000)]) (by kernel_rfl) ?_
      obtain rfl := Option.some.inj H
      exact J
  | cons x rest ih =>
    intro i hd l H
    rw [podestalaw04_ActPlain_l0s] at H
    refine AR.facts 0 rfl fun hf => ?_
    have hlen : ports.length ≤ 9223372036854775807 := by have hq := len_ok hf.2.1; rw [List.length_map] at hq; exact hq
    obtain ⟨hlt, hv_i, hd2⟩ := drop_cons hd
    have hc : (decide (((i : Nat) : Int) < (((List.map (intA .u8) ports).length : Nat) : Int))) = true := by rw [List.length_map]; exact decide_eq_true (by omega)
    have hw : IntKind.i64.wrap (((i : Nat) : Int) + 1) = ((i + 1 : Nat) : Int) := wrapI_succ (by omega)
    refine AR.seg hG hm 3 [0, 1, 5, 7, 8, 19] (k' := [.code [1, 1, 1, 0, 1, 0, 0, 0, 1], .code [1, 1, 1, 0, 1, 0, 0, 1], .loop [1, 1, 1, 0, 1, 0], .blk 0, .code [1, 1, 1, 1]]) (t' := [(0, .sl 5 (List.map (intA .u8) ports) f_ports), (1, .sc (.bool tells)), (5, .ptr 0 0 none), (7, .own 1 1000000), (8, .sc (.int .i64 ((i : Nat) : Int))), (19, .sc (.bool (decide (((i : Nat) : Int) < (((List.map (intA .u8) ports).length : Nat) : Int)))))]) (h' := [.box 43 [.arr .u64 12 h1], .row 53 (List.map Act.av l) 1000000 true]) (by kernel_rfl) ?_
    refine AR.cond (.tmp 19) (decide (((i : Nat) : Int) < (((List.map (intA .u8) ports).length : Nat) : Int))) (by kernel_rfl) (by kernel_rfl) (fun hb => ?ht7) (fun hb => ?hf7)
    case ht7 =>
      refine AR.seg hG hm 3 [0, 1, 5, 7, 8] (k' := [.code [1, 1, 1, 0, 1, 0, 0, 1, 0, 0], .blk 1, .code [1, 1, 1, 0, 1, 0, 0, 1, 1], .loop [1, 1, 1, 0, 1, 0], .blk 0, .code [1, 1, 1, 1]]) (t' := [(0, .sl 5 (List.map (intA .u8) ports) f_ports), (1, .sc (.bool tells)), (5, .ptr 0 0 none), (7, .own 1 1000000), (8, .sc (.int .i64 ((i : Nat) : Int)))]) (h' := [.box 43 [.arr .u64 12 h1], .row 53 (List.map Act.av l) 1000000 true]) (by kernel_rfl) ?_
      refine AR.reg hm podestalaw04_ActPlain_k1 (by kernel_rfl) ?_
      refine DK.seg hG 3 [0, 1, 5, 8, 22, 23, 24] (t' := [(0, .sl 5 (List.map (intA .u8) ports) f_ports), (1, .sc (.bool tells)), (5, .ptr 0 0 none), (8, .sc (.int .i64 ((i : Nat) : Int))), (22, .own 1 1000000), (23, .sl 5 (List.map (intA .u8) ports) f_ports), (24, .sc (.int .i64 ((i : Nat) : Int)))]) (h' := [.box 43 [.arr .u64 12 h1], .row 53 (List.map Act.av l) 1000000 true]) (by kernel_rfl) rfl ?_
      refine DK.op' [0, 1, 5, 8, 22, 25] (t' := [(0, .sl 5 (List.map (intA .u8) ports) f_ports), (1, .sc (.bool tells)), (5, .ptr 0 0 none), (8, .sc (.int .i64 ((i : Nat) : Int))), (22, .own 1 1000000), (25, .ep [.sc (.int .u8 x)] 0 none)]) (h' := [.box 43 [.arr .u64 12 h1], .row 53 (List.map Act.av l) 1000000 true]) (LSpec.index' (r := .sc (.int .u8 x)) (fs := [.sc (.int .u8 x)]) hG (rows := List.map (intA .u8) ports) (j := ((i : Nat) : Int)) (by kernel_rfl) (ixO_map hv_i _) (by kernel_rfl)) (by kernel_rfl) rfl (by kernel_rfl) rfl ?_
      refine DK.seg hG 1 [0, 1, 5, 8, 22, 26] (t' := [(0, .sl 5 (List.map (intA .u8) ports) f_ports), (1, .sc (.bool tells)), (5, .ptr 0 0 none), (8, .sc (.int .i64 ((i : Nat) : Int))), (22, .own 1 1000000), (26, .sc (.int .u8 x))]) (h' := [.box 43 [.arr .u64 12 h1], .row 53 (List.map Act.av l) 1000000 true]) (by kernel_rfl) rfl ?_
      refine DK.op' [0, 1, 5, 8, 22, 27] (t' := [(0, .sl 5 (List.map (intA .u8) ports) f_ports), (1, .sc (.bool tells)), (5, .ptr 0 0 none), (8, .sc (.int .i64 ((i : Nat) : Int))), (22, .own 1 1000000), (27, .sc (.int .u8 (Int.tmod x 16)))]) (h' := [.box 43 [.arr .u64 12 h1], .row 53 (List.map Act.av l) 1000000 true]) (LSpec.rem (k := .u8) (a := x) (b := 16) (by decide) (by kernel_rfl)) (by kernel_rfl) rfl (by kernel_rfl) rfl ?_
      refine DK.seg hG 4 [0, 1, 5, 8, 22, 31] (t' := [(0, .sl 5 (List.map (intA .u8) ports) f_ports), (1, .sc (.bool tells)), (5, .ptr 0 0 none), (8, .sc (.int .i64 ((i : Nat) : Int))), (22, .own 1 1000000), (31, .sl 53 (List.map Act.av [({ Kind := 1, Port := (IntKind.i64.wrap (1 + (IntKind.i64.wrap (Int.tmod x 16)))), Field := 0, Value := 0 } : Act)]) true)]) (h' := [.box 43 [.arr .u64 12 h1], .row 53 (List.map Act.av l) 1000000 true]) (by kernel_rfl) rfl ?_
      obtain ⟨hfit, H⟩ := fitO_some H
      refine DK.op' [0, 1, 5, 8, 32] (t' := [(0, .sl 5 (List.map (intA .u8) ports) f_ports), (1, .sc (.bool tells)), (5, .ptr 0 0 none), (8, .sc (.int .i64 ((i : Nat) : Int))), (32, .own 1 1000001)]) (h' := [.box 43 [.arr .u64 12 h1], .row 53 (List.map Act.av (l ++ [({ Kind := 1, Port := (IntKind.i64.wrap (1 + (IntKind.i64.wrap (Int.tmod x 16)))), Field := 0, Value := 0 } : Act)])) 1000001 true]) (LSpec.append' hG Act.av l [({ Kind := 1, Port := (IntKind.i64.wrap (1 + (IntKind.i64.wrap (Int.tmod x 16)))), Field := 0, Value := 0 } : Act)] 1 1000000 53 32 hfit (by kernel_rfl)) (by kernel_rfl) (by kernel_rfl) (by kernel_rfl) rfl ?_
      refine DK.seg hG 1 [0, 1, 5, 7, 8] (t' := [(0, .sl 5 (List.map (intA .u8) ports) f_ports), (1, .sc (.bool tells)), (5, .ptr 0 0 none), (7, .own 1 1000001), (8, .sc (.int .i64 ((i : Nat) : Int)))]) (h' := [.box 43 [.arr .u64 12 h1], .row 53 (List.map Act.av (l ++ [({ Kind := 1, Port := (IntKind.i64.wrap (1 + (IntKind.i64.wrap (Int.tmod x 16)))), Field := 0, Value := 0 } : Act)])) 1000001 true]) (by kernel_rfl) rfl ?_
      refine DK.done (by kernel_rfl) (by kernel_rfl) ?_
      refine AR.seg hG hm 2 [0, 1, 5, 7, 8] (k' := [.loop [1, 1, 1, 0, 1, 0], .blk 0, .code [1, 1, 1, 1]]) (t' := [(0, .sl 5 (List.map (intA .u8) ports) f_ports), (1, .sc (.bool tells)), (5, .ptr 0 0 none), (7, .own 1 1000001), (8, .sc (.int .i64 (IntKind.i64.wrap (((i : Nat) : Int) + 1))))]) (h' := [.box 43 [.arr .u64 12 h1], .row 53 (List.map Act.av (l ++ [({ Kind := 1, Port := (IntKind.i64.wrap (1 + (IntKind.i64.wrap (Int.tmod x 16)))), Field := 0, Value := 0 } : Act)])) 1000001 true]) (by kernel_rfl) ?_
      refine AR.keep [0, 1, 5, 7, 8] (t' := [(0, .sl 5 (List.map (intA .u8) ports) f_ports), (1, .sc (.bool tells)), (5, .ptr 0 0 none), (7, .own 1 1000001), (8, .sc (.int .i64 (IntKind.i64.wrap (((i : Nat) : Int) + 1))))]) (by kernel_rfl) ?_
      refine AR.norm' 1 1000000 hc0 (t' := [(0, .sl 5 (List.map (intA .u8) ports) f_ports), (1, .sc (.bool tells)), (5, .ptr 0 0 none), (7, .own 1 1000000), (8, .sc (.int .i64 (IntKind.i64.wrap (((i : Nat) : Int) + 1))))]) (h' := [.box 43 [.arr .u64 12 h1], .row 53 (List.map Act.av (l ++ [({ Kind := 1, Port := (IntKind.i64.wrap (1 + (IntKind.i64.wrap (Int.tmod x 16)))), Field := 0, Value := 0 } : Act)])) 1000000 true]) (by kernel_rfl) ?_
      refine AR.loop_round ?_
      rw [hw]
      exact ih (i + 1) hd2 (l ++ [({ Kind := 1, Port := (IntKind.i64.wrap (1 + (IntKind.i64.wrap (Int.tmod x 16)))), Field := 0, Value := 0 } : Act)]) H
    case hf7 => exact absurd (hc.symm.trans hb) (by decide)

def podestalaw04_ActPlain_l1s (ports : List Int) (h1 : List Int) : List Send → Nat → Option (Sum (Unit) (Bool))
  | [], i1 =>
    some (.inl ())
  | x1 :: rest, i1 =>
    (ixO ports ((i1 : Nat) : Int)).bind fun x2 =>
    (bif ((x1.Port != (IntKind.i64.wrap (1 + (IntKind.i64.wrap (Int.tmod x2 16))))) || (!(x1.Head == h1))) then
      some (.inr false)
    else
      podestalaw04_ActPlain_l1s ports h1 rest (i1 + 1) )
theorem podestalaw04_ActPlain_l1_walk (ports : List Int) (tells : Bool) (h1 : List Int) (v : (List Act)) (f_ports : Bool) (r : Bool) (c0 : Ctx) (hc0 : c0.m.length = 0) (res : Sum (Unit) (Bool)) (J : ∀ w : Unit, res = .inl w → AR Try.prog tab podestalaw04_ActPlain_F c0 (Rp tab.S c0 (.sc (.bool r)) []) [.code [1, 1, 1, 1, 1, 1, 1, 1]] [] [.box 43 [.arr .u64 12 h1], .row 53 (List.map Act.av (v ++ [({ Kind := 3, Port := 0, Field := 0, Value := 0 } : Act)])) 1000000 false]) (Jr : ∀ w, res = .inr w → w = r) :
    ∀ (rest : List Send) (i1 : Nat) (hd : ((runA (v ++ [({ Kind := 3, Port := 0, Field := 0, Value := 0 } : Act)]) h1).1).drop i1 = rest) (H : podestalaw04_ActPlain_l1s ports h1 rest i1 = some res), AR Try.prog tab podestalaw04_ActPlain_F c0 (Rp tab.S c0 (.sc (.bool r)) []) [.code [1, 1, 1, 1, 1, 1, 1, 0, 1, 0, 0], .loop [1, 1, 1, 1, 1, 1, 1, 0, 1, 0], .blk 2, .code [1, 1, 1, 1, 1, 1, 1, 1]] [(0, .sl 5 (List.map (intA .u8) ports) f_ports), (5, .ptr 0 0 none), (9, .sl 59 (List.map Send.av ((runA (v ++ [({ Kind := 3, Port := 0, Field := 0, Value := 0 } : Act)]) h1).1)) false), (11, .sc (.int .i64 ((i1 : Nat) : Int)))] [.box 43 [.arr .u64 12 h1], .row 53 (List.map Act.av (v ++ [({ Kind := 3, Port := 0, Field := 0, Value := 0 } : Act)])) 1000000 false] := by
  have hG := tab_ok
  have hm := mixed
  intro rest
  induction rest with
  | nil =>
    intro i1 hd  H
    rw [podestalaw04_ActPlain_l1s] at H
    refine AR.facts 9 rfl fun hf => ?_
    have hlen : ((runA (v ++ [({ Kind := 3, Port := 0, Field := 0, Value := 0 } : Act)]) h1).1).length ≤ 9223372036854775807 := by have hq := len_ok hf.2.1; rw [List.length_map] at hq; exact hq
    have hge : ((runA (v ++ [({ Kind := 3, Port := 0, Field := 0, Value := 0 } : Act)]) h1).1).length ≤ i1 := List.drop_eq_nil_iff.1 hd
    have hc : (decide (((i1 : Nat) : Int) < (((List.map Send.av ((runA (v ++ [({ Kind := 3, Port := 0, Field := 0, Value := 0 } : Act)]) h1).1)).length : Nat) : Int))) = false := by rw [List.length_map]; exact decide_eq_false (by omega)
    refine AR.seg hG hm 3 [0, 5, 9, 11, 57] (k' := [.code [1, 1, 1, 1, 1, 1, 1, 0, 1, 0, 0, 0, 1], .code [1, 1, 1, 1, 1, 1, 1, 0, 1, 0, 0, 1], .loop [1, 1, 1, 1, 1, 1, 1, 0, 1, 0], .blk 2, .code [1, 1, 1, 1, 1, 1, 1, 1]]) (t' := [(0, .sl 5 (List.map (intA .u8) ports) f_ports), (5, .ptr 0 0 none), (9, .sl 59 (List.map Send.av ((runA (v ++ [({ Kind := 3, Port := 0, Field := 0, Value := 0 } : Act)]) h1).1)) false), (11, .sc (.int .i64 ((i1 : Nat) : Int))), (57, .sc (.bool (decide (((i1 : Nat) : Int) < (((List.map Send.av ((runA (v ++ [({ Kind := 3, Port := 0, Field := 0, Value := 0 } : Act)]) h1).1)).length : Nat) : Int)))))]) (h' := [.box 43 [.arr .u64 12 h1], .row 53 (List.map Act.av (v ++ [({ Kind := 3, Port := 0, Field := 0, Value := 0 } : Act)])) 1000000 false]) (by kernel_rfl) ?_
    refine AR.cond (.tmp 57) (decide (((i1 : Nat) : Int) < (((List.map Send.av ((runA (v ++ [({ Kind := 3, Port := 0, Field := 0, Value := 0 } : Act)]) h1).1)).length : Nat) : Int))) (by kernel_rfl) (by kernel_rfl) (fun hb => ?ht20) (fun hb => ?hf20)
    case ht20 => exact absurd (hb.symm.trans hc) (by decide)
    case hf20 =>
      refine AR.seg hG hm 1 [] (k' := [.code [1, 1, 1, 1, 1, 1, 1, 1]]) (t' := []) (h' := [.box 43 [.arr .u64 12 h1], .row 53 (List.map Act.av (v ++ [({ Kind := 3, Port := 0, Field := 0, Value := 0 } : Act)])) 1000000 false]) (by kernel_rfl) ?_
      refine AR.keep [] (t' := []) (by kernel_rfl) ?_
      exact J () (Option.some.inj H).symm
  | cons x1 rest ih =>
    intro i1 hd  H
    rw [podestalaw04_ActPlain_l1s] at H
    refine AR.facts 9 rfl fun hf => ?_
    have hlen : ((runA (v ++ [({ Kind := 3, Port := 0, Field := 0, Value := 0 } : Act)]) h1).1).length ≤ 9223372036854775807 := by have hq := len_ok hf.2.1; rw [List.length_map] at hq; exact hq
    obtain ⟨hlt, hv_i1, hd2⟩ := drop_cons hd
    have hc : (decide (((i1 : Nat) : Int) < (((List.map Send.av ((runA (v ++ [({ Kind := 3, Port := 0, Field := 0, Value := 0 } : Act)]) h1).1)).length : Nat) : Int))) = true := by rw [List.length_map]; exact decide_eq_true (by omega)
    have hw : IntKind.i64.wrap (((i1 : Nat) : Int) + 1) = ((i1 + 1 : Nat) : Int) := wrapI_succ (by omega)
    refine AR.seg hG hm 3 [0, 5, 9, 11, 57] (k' := [.code [1, 1, 1, 1, 1, 1, 1, 0, 1, 0, 0, 0, 1], .code [1, 1, 1, 1, 1, 1, 1, 0, 1, 0, 0, 1], .loop [1, 1, 1, 1, 1, 1, 1, 0, 1, 0], .blk 2, .code [1, 1, 1, 1, 1, 1, 1, 1]]) (t' := [(0, .sl 5 (List.map (intA .u8) ports) f_ports), (5, .ptr 0 0 none), (9, .sl 59 (List.map Send.av ((runA (v ++ [({ Kind := 3, Port := 0, Field := 0, Value := 0 } : Act)]) h1).1)) false), (11, .sc (.int .i64 ((i1 : Nat) : Int))), (57, .sc (.bool (decide (((i1 : Nat) : Int) < (((List.map Send.av ((runA (v ++ [({ Kind := 3, Port := 0, Field := 0, Value := 0 } : Act)]) h1).1)).length : Nat) : Int)))))]) (h' := [.box 43 [.arr .u64 12 h1], .row 53 (List.map Act.av (v ++ [({ Kind := 3, Port := 0, Field := 0, Value := 0 } : Act)])) 1000000 false]) (by kernel_rfl) ?_
    refine AR.cond (.tmp 57) (decide (((i1 : Nat) : Int) < (((List.map Send.av ((runA (v ++ [({ Kind := 3, Port := 0, Field := 0, Value := 0 } : Act)]) h1).1)).length : Nat) : Int))) (by kernel_rfl) (by kernel_rfl) (fun hb => ?ht21) (fun hb => ?hf21)
    case ht21 =>
      refine AR.seg hG hm 4 [0, 5, 9, 11] (k' := [.code [1, 1, 1, 1, 1, 1, 1, 0, 1, 0, 0, 1, 0, 0, 0], .code [1, 1, 1, 1, 1, 1, 1, 0, 1, 0, 0, 1, 0, 0, 1], .blk 3, .code [1, 1, 1, 1, 1, 1, 1, 0, 1, 0, 0, 1, 1], .loop [1, 1, 1, 1, 1, 1, 1, 0, 1, 0], .blk 2, .code [1, 1, 1, 1, 1, 1, 1, 1]]) (t' := [(0, .sl 5 (List.map (intA .u8) ports) f_ports), (5, .ptr 0 0 none), (9, .sl 59 (List.map Send.av ((runA (v ++ [({ Kind := 3, Port := 0, Field := 0, Value := 0 } : Act)]) h1).1)) false), (11, .sc (.int .i64 ((i1 : Nat) : Int)))]) (h' := [.box 43 [.arr .u64 12 h1], .row 53 (List.map Act.av (v ++ [({ Kind := 3, Port := 0, Field := 0, Value := 0 } : Act)])) 1000000 false]) (by kernel_rfl) ?_
      refine AR.reg hm podestalaw04_ActPlain_k5 (by kernel_rfl) ?_
      refine DK.seg hG 2 [0, 5, 9, 11, 60, 61] (t' := [(0, .sl 5 (List.map (intA .u8) ports) f_ports), (5, .ptr 0 0 none), (9, .sl 59 (List.map Send.av ((runA (v ++ [({ Kind := 3, Port := 0, Field := 0, Value := 0 } : Act)]) h1).1)) false), (11, .sc (.int .i64 ((i1 : Nat) : Int))), (60, .sl 59 (List.map Send.av ((runA (v ++ [({ Kind := 3, Port := 0, Field := 0, Value := 0 } : Act)]) h1).1)) false), (61, .sc (.int .i64 ((i1 : Nat) : Int)))]) (h' := [.box 43 [.arr .u64 12 h1], .row 53 (List.map Act.av (v ++ [({ Kind := 3, Port := 0, Field := 0, Value := 0 } : Act)])) 1000000 false]) (by kernel_rfl) rfl ?_
      refine DK.op' [0, 5, 9, 11, 62] (t' := [(0, .sl 5 (List.map (intA .u8) ports) f_ports), (5, .ptr 0 0 none), (9, .sl 59 (List.map Send.av ((runA (v ++ [({ Kind := 3, Port := 0, Field := 0, Value := 0 } : Act)]) h1).1)) false), (11, .sc (.int .i64 ((i1 : Nat) : Int))), (62, .ep [.sc (.int .i64 x1.Port), .arr .u64 12 x1.Head] 0 none)]) (h' := [.box 43 [.arr .u64 12 h1], .row 53 (List.map Act.av (v ++ [({ Kind := 3, Port := 0, Field := 0, Value := 0 } : Act)])) 1000000 false]) (LSpec.index' (r := Send.av x1) (fs := [.sc (.int .i64 x1.Port), .arr .u64 12 x1.Head]) hG (rows := List.map Send.av ((runA (v ++ [({ Kind := 3, Port := 0, Field := 0, Value := 0 } : Act)]) h1).1)) (j := ((i1 : Nat) : Int)) (by kernel_rfl) (ixO_map hv_i1 _) (by kernel_rfl)) (by kernel_rfl) rfl (by kernel_rfl) rfl ?_
      refine DK.seg hG 4 [0, 5, 9, 11, 64, 65, 66] (t' := [(0, .sl 5 (List.map (intA .u8) ports) f_ports), (5, .ptr 0 0 none), (9, .sl 59 (List.map Send.av ((runA (v ++ [({ Kind := 3, Port := 0, Field := 0, Value := 0 } : Act)]) h1).1)) false), (11, .sc (.int .i64 ((i1 : Nat) : Int))), (64, .sc (.int .i64 x1.Port)), (65, .sl 5 (List.map (intA .u8) ports) f_ports), (66, .sc (.int .i64 ((i1 : Nat) : Int)))]) (h' := [.box 43 [.arr .u64 12 h1], .row 53 (List.map Act.av (v ++ [({ Kind := 3, Port := 0, Field := 0, Value := 0 } : Act)])) 1000000 false]) (by kernel_rfl) rfl ?_
      obtain ⟨x2, hv, H⟩ := Option.bind_eq_some_iff.1 H
      refine DK.op' [0, 5, 9, 11, 64, 67] (t' := [(0, .sl 5 (List.map (intA .u8) ports) f_ports), (5, .ptr 0 0 none), (9, .sl 59 (List.map Send.av ((runA (v ++ [({ Kind := 3, Port := 0, Field := 0, Value := 0 } : Act)]) h1).1)) false), (11, .sc (.int .i64 ((i1 : Nat) : Int))), (64, .sc (.int .i64 x1.Port)), (67, .ep [.sc (.int .u8 x2)] 0 none)]) (h' := [.box 43 [.arr .u64 12 h1], .row 53 (List.map Act.av (v ++ [({ Kind := 3, Port := 0, Field := 0, Value := 0 } : Act)])) 1000000 false]) (LSpec.index' (r := .sc (.int .u8 x2)) (fs := [.sc (.int .u8 x2)]) hG (rows := List.map (intA .u8) ports) (j := ((i1 : Nat) : Int)) (by kernel_rfl) (ixO_map hv _) (by kernel_rfl)) (by kernel_rfl) rfl (by kernel_rfl) rfl ?_
      refine DK.seg hG 1 [0, 5, 9, 11, 64, 68] (t' := [(0, .sl 5 (List.map (intA .u8) ports) f_ports), (5, .ptr 0 0 none), (9, .sl 59 (List.map Send.av ((runA (v ++ [({ Kind := 3, Port := 0, Field := 0, Value := 0 } : Act)]) h1).1)) false), (11, .sc (.int .i64 ((i1 : Nat) : Int))), (64, .sc (.int .i64 x1.Port)), (68, .sc (.int .u8 x2))]) (h' := [.box 43 [.arr .u64 12 h1], .row 53 (List.map Act.av (v ++ [({ Kind := 3, Port := 0, Field := 0, Value := 0 } : Act)])) 1000000 false]) (by kernel_rfl) rfl ?_
      refine DK.op' [0, 5, 9, 11, 64, 69] (t' := [(0, .sl 5 (List.map (intA .u8) ports) f_ports), (5, .ptr 0 0 none), (9, .sl 59 (List.map Send.av ((runA (v ++ [({ Kind := 3, Port := 0, Field := 0, Value := 0 } : Act)]) h1).1)) false), (11, .sc (.int .i64 ((i1 : Nat) : Int))), (64, .sc (.int .i64 x1.Port)), (69, .sc (.int .u8 (Int.tmod x2 16)))]) (h' := [.box 43 [.arr .u64 12 h1], .row 53 (List.map Act.av (v ++ [({ Kind := 3, Port := 0, Field := 0, Value := 0 } : Act)])) 1000000 false]) (LSpec.rem (k := .u8) (a := x2) (b := 16) (by decide) (by kernel_rfl)) (by kernel_rfl) rfl (by kernel_rfl) rfl ?_
      refine DK.seg hG 4 [0, 5, 9, 11, 73] (t' := [(0, .sl 5 (List.map (intA .u8) ports) f_ports), (5, .ptr 0 0 none), (9, .sl 59 (List.map Send.av ((runA (v ++ [({ Kind := 3, Port := 0, Field := 0, Value := 0 } : Act)]) h1).1)) false), (11, .sc (.int .i64 ((i1 : Nat) : Int))), (73, .sc (.bool (x1.Port != (IntKind.i64.wrap (1 + (IntKind.i64.wrap (Int.tmod x2 16)))))))]) (h' := [.box 43 [.arr .u64 12 h1], .row 53 (List.map Act.av (v ++ [({ Kind := 3, Port := 0, Field := 0, Value := 0 } : Act)])) 1000000 false]) (by kernel_rfl) rfl ?_
      refine DK.mux 73 (x1.Port != (IntKind.i64.wrap (1 + (IntKind.i64.wrap (Int.tmod x2 16))))) (j := 22) (h' := [.box 43 [.arr .u64 12 h1], .row 53 (List.map Act.av (v ++ [({ Kind := 3, Port := 0, Field := 0, Value := 0 } : Act)])) 1000000 false]) (by kernel_rfl) (fun z => [(0, .sl 5 (List.map (intA .u8) ports) f_ports), (5, .ptr 0 0 none), (9, .sl 59 (List.map Send.av ((runA (v ++ [({ Kind := 3, Port := 0, Field := 0, Value := 0 } : Act)]) h1).1)) false), (11, .sc (.int .i64 ((i1 : Nat) : Int))), (81, .sc (.bool (z || (!(x1.Head == h1)))))]) ?J22 (fun hb J => ?ht22) (fun hb J => ?hf22)
      case ht22 =>
        exact DK.seg hG 8 [0, 5, 9, 11, 81] (by kernel_rfl) rfl J
      case hf22 =>
        refine DK.seg hG 2 [0, 5, 9, 11, 73, 74, 75] (t' := [(0, .sl 5 (List.map (intA .u8) ports) f_ports), (5, .ptr 0 0 none), (9, .sl 59 (List.map Send.av ((runA (v ++ [({ Kind := 3, Port := 0, Field := 0, Value := 0 } : Act)]) h1).1)) false), (11, .sc (.int .i64 ((i1 : Nat) : Int))), (73, .sc (.bool false)), (74, .sl 59 (List.map Send.av ((runA (v ++ [({ Kind := 3, Port := 0, Field := 0, Value := 0 } : Act)]) h1).1)) false), (75, .sc (.int .i64 ((i1 : Nat) : Int)))]) (h' := [.box 43 [.arr .u64 12 h1], .row 53 (List.map Act.av (v ++ [({ Kind := 3, Port := 0, Field := 0, Value := 0 } : Act)])) 1000000 false]) (by kernel_rfl) rfl ?_
        refine DK.op' [0, 5, 9, 11, 73, 76] (t' := [(0, .sl 5 (List.map (intA .u8) ports) f_ports), (5, .ptr 0 0 none), (9, .sl 59 (List.map Send.av ((runA (v ++ [({ Kind := 3, Port := 0, Field := 0, Value := 0 } : Act)]) h1).1)) false), (11, .sc (.int .i64 ((i1 : Nat) : Int))), (73, .sc (.bool false)), (76, .ep [.sc (.int .i64 x1.Port), .arr .u64 12 x1.Head] 0 none)]) (h' := [.box 43 [.arr .u64 12 h1], .row 53 (List.map Act.av (v ++ [({ Kind := 3, Port := 0, Field := 0, Value := 0 } : Act)])) 1000000 false]) (LSpec.index' (r := Send.av x1) (fs := [.sc (.int .i64 x1.Port), .arr .u64 12 x1.Head]) hG (rows := List.map Send.av ((runA (v ++ [({ Kind := 3, Port := 0, Field := 0, Value := 0 } : Act)]) h1).1)) (j := ((i1 : Nat) : Int)) (by kernel_rfl) (ixO_map hv_i1 _) (by kernel_rfl)) (by kernel_rfl) rfl (by kernel_rfl) rfl ?_
        refine DK.seg hG 3 [0, 5, 9, 11, 73, 78, 79] (t' := [(0, .sl 5 (List.map (intA .u8) ports) f_ports), (5, .ptr 0 0 none), (9, .sl 59 (List.map Send.av ((runA (v ++ [({ Kind := 3, Port := 0, Field := 0, Value := 0 } : Act)]) h1).1)) false), (11, .sc (.int .i64 ((i1 : Nat) : Int))), (73, .sc (.bool false)), (78, .arr .u64 12 x1.Head), (79, .arr .u64 12 h1)]) (h' := [.box 43 [.arr .u64 12 h1], .row 53 (List.map Act.av (v ++ [({ Kind := 3, Port := 0, Field := 0, Value := 0 } : Act)])) 1000000 false]) (by kernel_rfl) rfl ?_
        refine DK.op' [0, 5, 9, 11, 73, 80] (t' := [(0, .sl 5 (List.map (intA .u8) ports) f_ports), (5, .ptr 0 0 none), (9, .sl 59 (List.map Send.av ((runA (v ++ [({ Kind := 3, Port := 0, Field := 0, Value := 0 } : Act)]) h1).1)) false), (11, .sc (.int .i64 ((i1 : Nat) : Int))), (73, .sc (.bool false)), (80, .sc (.bool (!(x1.Head == h1))))]) (h' := [.box 43 [.arr .u64 12 h1], .row 53 (List.map Act.av (v ++ [({ Kind := 3, Port := 0, Field := 0, Value := 0 } : Act)])) 1000000 false]) (LSpec.eq' 9 (r := (!(x1.Head == h1))) (by kernel_rfl)) (by kernel_rfl) rfl (by kernel_rfl) rfl ?_
        exact DK.seg hG 1 [0, 5, 9, 11, 81] (by kernel_rfl) rfl J
      refine DK.done (by kernel_rfl) (by kernel_rfl) ?_
      refine AR.cond (.tmp 81) ((x1.Port != (IntKind.i64.wrap (1 + (IntKind.i64.wrap (Int.tmod x2 16))))) || (!(x1.Head == h1))) (by kernel_rfl) (by kernel_rfl) (fun hb => ?ht23) (fun hb => ?hf23)
      case ht23 =>
        replace H := cond_t hb H
        refine AR.seg hG hm 2 [6] (k' := [.code [1, 1, 1, 1, 1, 1, 1, 0, 1, 0, 0, 1, 0, 0, 1, 0, 1], .blk 3, .code [1, 1, 1, 1, 1, 1, 1, 0, 1, 0, 0, 1, 1], .loop [1, 1, 1, 1, 1, 1, 1, 0, 1, 0], .blk 2, .code [1, 1, 1, 1, 1, 1, 1, 1]]) (t' := [(6, .sc (.bool false))]) (h' := [.box 43 [.arr .u64 12 h1], .row 53 (List.map Act.av (v ++ [({ Kind := 3, Port := 0, Field := 0, Value := 0 } : Act)])) 1000000 false]) (by kernel_rfl) ?_
        obtain rfl := Option.some.inj H
        obtain rfl := Jr _ rfl
        exact AR.ret0 (fn := Try.f9) hG Try.func9 (by kernel_rfl) hc0 (r0 := .sc (.bool false)) (by kernel_rfl) (WkV.refl _)
      case hf23 =>
        replace H := cond_f hb H
        refine AR.seg hG hm 3 [0, 5, 9, 11] (k' := [.loop [1, 1, 1, 1, 1, 1, 1, 0, 1, 0], .blk 2, .code [1, 1, 1, 1, 1, 1, 1, 1]]) (t' := [(0, .sl 5 (List.map (intA .u8) ports) f_ports), (5, .ptr 0 0 none), (9, .sl 59 (List.map Send.av ((runA (v ++ [({ Kind := 3, Port := 0, Field := 0, Value := 0 } : Act)]) h1).1)) false), (11, .sc (.int .i64 (IntKind.i64.wrap (((i1 : Nat) : Int) + 1))))]) (h' := [.box 43 [.arr .u64 12 h1], .row 53 (List.map Act.av (v ++ [({ Kind := 3, Port := 0, Field := 0, Value := 0 } : Act)])) 1000000 false]) (by kernel_rfl) ?_
        refine AR.keep [0, 5, 9, 11] (t' := [(0, .sl 5 (List.map (intA .u8) ports) f_ports), (5, .ptr 0 0 none), (9, .sl 59 (List.map Send.av ((runA (v ++ [({ Kind := 3, Port := 0, Field := 0, Value := 0 } : Act)]) h1).1)) false), (11, .sc (.int .i64 (IntKind.i64.wrap (((i1 : Nat) : Int) + 1))))]) (by kernel_rfl) ?_
        refine AR.loop_round ?_
        rw [hw]
        exact ih (i1 + 1) hd2 H
    case hf21 => exact absurd (hc.symm.trans hb) (by decide)

def podestalaw04_ActPlain_l2s (ports : List Int) (h1 : List Int) : List Send → Nat → Option (Sum (Unit) (Bool))
  | [], i2 =>
    some (.inl ())
  | x2 :: rest, i2 =>
    (ixO ports ((i2 : Nat) : Int)).bind fun x3 =>
    (bif ((x2.Port != (IntKind.i64.wrap (1 + (IntKind.i64.wrap (Int.tmod x3 16))))) || (!(x2.Head == h1))) then
      some (.inr false)
    else
      podestalaw04_ActPlain_l2s ports h1 rest (i2 + 1) )
theorem podestalaw04_ActPlain_l2_walk (ports : List Int) (tells : Bool) (h1 : List Int) (v : (List Act)) (f_ports : Bool) (r : Bool) (c0 : Ctx) (hc0 : c0.m.length = 0) (res : Sum (Unit) (Bool)) (J : ∀ w : Unit, res = .inl w → AR Try.prog tab podestalaw04_ActPlain_F c0 (Rp tab.S c0 (.sc (.bool r)) []) [.code [1, 1, 1, 1, 1, 1, 1, 1]] [] [.box 43 [.arr .u64 12 h1], .row 53 (List.map Act.av v) 1000000 false]) (Jr : ∀ w, res = .inr w → w = r) :
    ∀ (rest : List Send) (i2 : Nat) (hd : ((runA v h1).1).drop i2 = rest) (H : podestalaw04_ActPlain_l2s ports h1 rest i2 = some res), AR Try.prog tab podestalaw04_ActPlain_F c0 (Rp tab.S c0 (.sc (.bool r)) []) [.code [1, 1, 1, 1, 1, 1, 1, 0, 1, 0, 0], .loop [1, 1, 1, 1, 1, 1, 1, 0, 1, 0], .blk 2, .code [1, 1, 1, 1, 1, 1, 1, 1]] [(0, .sl 5 (List.map (intA .u8) ports) f_ports), (5, .ptr 0 0 none), (9, .sl 59 (List.map Send.av ((runA v h1).1)) false), (11, .sc (.int .i64 ((i2 : Nat) : Int)))] [.box 43 [.arr .u64 12 h1], .row 53 (List.map Act.av v) 1000000 false] := by
  have hG := tab_ok
  have hm := mixed
  intro rest
  induction rest with
  | nil =>
    intro i2 hd  H
    rw [podestalaw04_ActPlain_l2s] at H
    refine AR.facts 9 rfl fun hf => ?_
    have hlen : ((runA v h1).1).length ≤ 9223372036854775807 := by have hq := len_ok hf.2.1; rw [List.length_map] at hq; exact hq
    have hge : ((runA v h1).1).length ≤ i2 := List.drop_eq_nil_iff.1 hd
    have hc : (decide (((i2 : Nat) : Int) < (((List.map Send.av ((runA v h1).1)).length : Nat) : Int))) = false := by rw [List.length_map]; exact decide_eq_false (by omega)
    refine AR.seg hG hm 3 [0, 5, 9, 11, 57] (k' := [.code [1, 1, 1, 1, 1, 1, 1, 0, 1, 0, 0, 0, 1], .code [1, 1, 1, 1, 1, 1, 1, 0, 1, 0, 0, 1], .loop [1, 1, 1, 1, 1, 1, 1, 0, 1, 0], .blk 2, .code [1, 1, 1, 1, 1, 1, 1, 1]]) (t' := [(0, .sl 5 (List.map (intA .u8) ports) f_ports), (5, .ptr 0 0 none), (9, .sl 59 (List.map Send.av ((runA v h1).1)) false), (11, .sc (.int .i64 ((i2 : Nat) : Int))), (57, .sc (.bool (decide (((i2 : Nat) : Int) < (((List.map Send.av ((runA v h1).1)).length : Nat) : Int)))))]) (h' := [.box 43 [.arr .u64 12 h1], .row 53 (List.map Act.av v) 1000000 false]) (by kernel_rfl) ?_
    refine AR.cond (.tmp 57) (decide (((i2 : Nat) : Int) < (((List.map Send.av ((runA v h1).1)).length : Nat) : Int))) (by kernel_rfl) (by kernel_rfl) (fun hb => ?ht35) (fun hb => ?hf35)
    case ht35 => exact absurd (hb.symm.trans hc) (by decide)
    case hf35 =>
      refine AR.seg hG hm 1 [] (k' := [.code [1, 1, 1, 1, 1, 1, 1, 1]]) (t' := []) (h' := [.box 43 [.arr .u64 12 h1], .row 53 (List.map Act.av v) 1000000 false]) (by kernel_rfl) ?_
      refine AR.keep [] (t' := []) (by kernel_rfl) ?_
      exact J () (Option.some.inj H).symm
  | cons x2 rest ih =>
    intro i2 hd  H
    rw [podestalaw04_ActPlain_l2s] at H
    refine AR.facts 9 rfl fun hf => ?_
    have hlen : ((runA v h1).1).length ≤ 9223372036854775807 := by have hq := len_ok hf.2.1; rw [List.length_map] at hq; exact hq
    obtain ⟨hlt, hv_i2, hd2⟩ := drop_cons hd
    have hc : (decide (((i2 : Nat) : Int) < (((List.map Send.av ((runA v h1).1)).length : Nat) : Int))) = true := by rw [List.length_map]; exact decide_eq_true (by omega)
    have hw : IntKind.i64.wrap (((i2 : Nat) : Int) + 1) = ((i2 + 1 : Nat) : Int) := wrapI_succ (by omega)
    refine AR.seg hG hm 3 [0, 5, 9, 11, 57] (k' := [.code [1, 1, 1, 1, 1, 1, 1, 0, 1, 0, 0, 0, 1], .code [1, 1, 1, 1, 1, 1, 1, 0, 1, 0, 0, 1], .loop [1, 1, 1, 1, 1, 1, 1, 0, 1, 0], .blk 2, .code [1, 1, 1, 1, 1, 1, 1, 1]]) (t' := [(0, .sl 5 (List.map (intA .u8) ports) f_ports), (5, .ptr 0 0 none), (9, .sl 59 (List.map Send.av ((runA v h1).1)) false), (11, .sc (.int .i64 ((i2 : Nat) : Int))), (57, .sc (.bool (decide (((i2 : Nat) : Int) < (((List.map Send.av ((runA v h1).1)).length : Nat) : Int)))))]) (h' := [.box 43 [.arr .u64 12 h1], .row 53 (List.map Act.av v) 1000000 false]) (by kernel_rfl) ?_
    refine AR.cond (.tmp 57) (decide (((i2 : Nat) : Int) < (((List.map Send.av ((runA v h1).1)).length : Nat) : Int))) (by kernel_rfl) (by kernel_rfl) (fun hb => ?ht36) (fun hb => ?hf36)
    case ht36 =>
      refine AR.seg hG hm 4 [0, 5, 9, 11] (k' := [.code [1, 1, 1, 1, 1, 1, 1, 0, 1, 0, 0, 1, 0, 0, 0], .code [1, 1, 1, 1, 1, 1, 1, 0, 1, 0, 0, 1, 0, 0, 1], .blk 3, .code [1, 1, 1, 1, 1, 1, 1, 0, 1, 0, 0, 1, 1], .loop [1, 1, 1, 1, 1, 1, 1, 0, 1, 0], .blk 2, .code [1, 1, 1, 1, 1, 1, 1, 1]]) (t' := [(0, .sl 5 (List.map (intA .u8) ports) f_ports), (5, .ptr 0 0 none), (9, .sl 59 (List.map Send.av ((runA v h1).1)) false), (11, .sc (.int .i64 ((i2 : Nat) : Int)))]) (h' := [.box 43 [.arr .u64 12 h1], .row 53 (List.map Act.av v) 1000000 false]) (by kernel_rfl) ?_
      refine AR.reg hm podestalaw04_ActPlain_k9 (by kernel_rfl) ?_
      refine DK.seg hG 2 [0, 5, 9, 11, 60, 61] (t' := [(0, .sl 5 (List.map (intA .u8) ports) f_ports), (5, .ptr 0 0 none), (9, .sl 59 (List.map Send.av ((runA v h1).1)) false), (11, .sc (.int .i64 ((i2 : Nat) : Int))), (60, .sl 59 (List.map Send.av ((runA v h1).1)) false), (61, .sc (.int .i64 ((i2 : Nat) : Int)))]) (h' := [.box 43 [.arr .u64 12 h1], .row 53 (List.map Act.av v) 1000000 false]) (by kernel_rfl) rfl ?_
      refine DK.op' [0, 5, 9, 11, 62] (t' := [(0, .sl 5 (List.map (intA .u8) ports) f_ports), (5, .ptr 0 0 none), (9, .sl 59 (List.map Send.av ((runA v h1).1)) false), (11, .sc (.int .i64 ((i2 : Nat) : Int))), (62, .ep [.sc (.int .i64 x2.Port), .arr .u64 12 x2.Head] 0 none)]) (h' := [.box 43 [.arr .u64 12 h1], .row 53 (List.map Act.av v) 1000000 false]) (LSpec.index' (r := Send.av x2) (fs := [.sc (.int .i64 x2.Port), .arr .u64 12 x2.Head]) hG (rows := List.map Send.av ((runA v h1).1)) (j := ((i2 : Nat) : Int)) (by kernel_rfl) (ixO_map hv_i2 _) (by kernel_rfl)) (by kernel_rfl) rfl (by kernel_rfl) rfl ?_
      refine DK.seg hG 4 [0, 5, 9, 11, 64, 65, 66] (t' := [(0, .sl 5 (List.map (intA .u8) ports) f_ports), (5, .ptr 0 0 none), (9, .sl 59 (List.map Send.av ((runA v h1).1)) false), (11, .sc (.int .i64 ((i2 : Nat) : Int))), (64, .sc (.int .i64 x2.Port)), (65, .sl 5 (List.map (intA .u8) ports) f_ports), (66, .sc (.int .i64 ((i2 : Nat) : Int)))]) (h' := [.box 43 [.arr .u64 12 h1], .row 53 (List.map Act.av v) 1000000 false]) (by kernel_rfl) rfl ?_
      obtain ⟨x3, hv, H⟩ := Option.bind_eq_some_iff.1 H
      refine DK.op' [0, 5, 9, 11, 64, 67] (t' := [(0, .sl 5 (List.map (intA .u8) ports) f_ports), (5, .ptr 0 0 none), (9, .sl 59 (List.map Send.av ((runA v h1).1)) false), (11, .sc (.int .i64 ((i2 : Nat) : Int))), (64, .sc (.int .i64 x2.Port)), (67, .ep [.sc (.int .u8 x3)] 0 none)]) (h' := [.box 43 [.arr .u64 12 h1], .row 53 (List.map Act.av v) 1000000 false]) (LSpec.index' (r := .sc (.int .u8 x3)) (fs := [.sc (.int .u8 x3)]) hG (rows := List.map (intA .u8) ports) (j := ((i2 : Nat) : Int)) (by kernel_rfl) (ixO_map hv _) (by kernel_rfl)) (by kernel_rfl) rfl (by kernel_rfl) rfl ?_
      refine DK.seg hG 1 [0, 5, 9, 11, 64, 68] (t' := [(0, .sl 5 (List.map (intA .u8) ports) f_ports), (5, .ptr 0 0 none), (9, .sl 59 (List.map Send.av ((runA v h1).1)) false), (11, .sc (.int .i64 ((i2 : Nat) : Int))), (64, .sc (.int .i64 x2.Port)), (68, .sc (.int .u8 x3))]) (h' := [.box 43 [.arr .u64 12 h1], .row 53 (List.map Act.av v) 1000000 false]) (by kernel_rfl) rfl ?_
      refine DK.op' [0, 5, 9, 11, 64, 69] (t' := [(0, .sl 5 (List.map (intA .u8) ports) f_ports), (5, .ptr 0 0 none), (9, .sl 59 (List.map Send.av ((runA v h1).1)) false), (11, .sc (.int .i64 ((i2 : Nat) : Int))), (64, .sc (.int .i64 x2.Port)), (69, .sc (.int .u8 (Int.tmod x3 16)))]) (h' := [.box 43 [.arr .u64 12 h1], .row 53 (List.map Act.av v) 1000000 false]) (LSpec.rem (k := .u8) (a := x3) (b := 16) (by decide) (by kernel_rfl)) (by kernel_rfl) rfl (by kernel_rfl) rfl ?_
      refine DK.seg hG 4 [0, 5, 9, 11, 73] (t' := [(0, .sl 5 (List.map (intA .u8) ports) f_ports), (5, .ptr 0 0 none), (9, .sl 59 (List.map Send.av ((runA v h1).1)) false), (11, .sc (.int .i64 ((i2 : Nat) : Int))), (73, .sc (.bool (x2.Port != (IntKind.i64.wrap (1 + (IntKind.i64.wrap (Int.tmod x3 16)))))))]) (h' := [.box 43 [.arr .u64 12 h1], .row 53 (List.map Act.av v) 1000000 false]) (by kernel_rfl) rfl ?_
      refine DK.mux 73 (x2.Port != (IntKind.i64.wrap (1 + (IntKind.i64.wrap (Int.tmod x3 16))))) (j := 22) (h' := [.box 43 [.arr .u64 12 h1], .row 53 (List.map Act.av v) 1000000 false]) (by kernel_rfl) (fun z => [(0, .sl 5 (List.map (intA .u8) ports) f_ports), (5, .ptr 0 0 none), (9, .sl 59 (List.map Send.av ((runA v h1).1)) false), (11, .sc (.int .i64 ((i2 : Nat) : Int))), (81, .sc (.bool (z || (!(x2.Head == h1)))))]) ?J37 (fun hb J => ?ht37) (fun hb J => ?hf37)
      case ht37 =>
        exact DK.seg hG 8 [0, 5, 9, 11, 81] (by kernel_rfl) rfl J
      case hf37 =>
        refine DK.seg hG 2 [0, 5, 9, 11, 73, 74, 75] (t' := [(0, .sl 5 (List.map (intA .u8) ports) f_ports), (5, .ptr 0 0 none), (9, .sl 59 (List.map Send.av ((runA v h1).1)) false), (11, .sc (.int .i64 ((i2 : Nat) : Int))), (73, .sc (.bool false)), (74, .sl 59 (List.map Send.av ((runA v h1).1)) false), (75, .sc (.int .i64 ((i2 : Nat) : Int)))]) (h' := [.box 43 [.arr .u64 12 h1], .row 53 (List.map Act.av v) 1000000 false]) (by kernel_rfl) rfl ?_
        refine DK.op' [0, 5, 9, 11, 73, 76] (t' := [(0, .sl 5 (List.map (intA .u8) ports) f_ports), (5, .ptr 0 0 none), (9, .sl 59 (List.map Send.av ((runA v h1).1)) false), (11, .sc (.int .i64 ((i2 : Nat) : Int))), (73, .sc (.bool false)), (76, .ep [.sc (.int .i64 x2.Port), .arr .u64 12 x2.Head] 0 none)]) (h' := [.box 43 [.arr .u64 12 h1], .row 53 (List.map Act.av v) 1000000 false]) (LSpec.index' (r := Send.av x2) (fs := [.sc (.int .i64 x2.Port), .arr .u64 12 x2.Head]) hG (rows := List.map Send.av ((runA v h1).1)) (j := ((i2 : Nat) : Int)) (by kernel_rfl) (ixO_map hv_i2 _) (by kernel_rfl)) (by kernel_rfl) rfl (by kernel_rfl) rfl ?_
        refine DK.seg hG 3 [0, 5, 9, 11, 73, 78, 79] (t' := [(0, .sl 5 (List.map (intA .u8) ports) f_ports), (5, .ptr 0 0 none), (9, .sl 59 (List.map Send.av ((runA v h1).1)) false), (11, .sc (.int .i64 ((i2 : Nat) : Int))), (73, .sc (.bool false)), (78, .arr .u64 12 x2.Head), (79, .arr .u64 12 h1)]) (h' := [.box 43 [.arr .u64 12 h1], .row 53 (List.map Act.av v) 1000000 false]) (by kernel_rfl) rfl ?_
        refine DK.op' [0, 5, 9, 11, 73, 80] (t' := [(0, .sl 5 (List.map (intA .u8) ports) f_ports), (5, .ptr 0 0 none), (9, .sl 59 (List.map Send.av ((runA v h1).1)) false), (11, .sc (.int .i64 ((i2 : Nat) : Int))), (73, .sc (.bool false)), (80, .sc (.bool (!(x2.Head == h1))))]) (h' := [.box 43 [.arr .u64 12 h1], .row 53 (List.map Act.av v) 1000000 false]) (LSpec.eq' 9 (r := (!(x2.Head == h1))) (by kernel_rfl)) (by kernel_rfl) rfl (by kernel_rfl) rfl ?_
        exact DK.seg hG 1 [0, 5, 9, 11, 81] (by kernel_rfl) rfl J
      refine DK.done (by kernel_rfl) (by kernel_rfl) ?_
      refine AR.cond (.tmp 81) ((x2.Port != (IntKind.i64.wrap (1 + (IntKind.i64.wrap (Int.tmod x3 16))))) || (!(x2.Head == h1))) (by kernel_rfl) (by kernel_rfl) (fun hb => ?ht38) (fun hb => ?hf38)
      case ht38 =>
        replace H := cond_t hb H
        refine AR.seg hG hm 2 [6] (k' := [.code [1, 1, 1, 1, 1, 1, 1, 0, 1, 0, 0, 1, 0, 0, 1, 0, 1], .blk 3, .code [1, 1, 1, 1, 1, 1, 1, 0, 1, 0, 0, 1, 1], .loop [1, 1, 1, 1, 1, 1, 1, 0, 1, 0], .blk 2, .code [1, 1, 1, 1, 1, 1, 1, 1]]) (t' := [(6, .sc (.bool false))]) (h' := [.box 43 [.arr .u64 12 h1], .row 53 (List.map Act.av v) 1000000 false]) (by kernel_rfl) ?_
        obtain rfl := Option.some.inj H
        obtain rfl := Jr _ rfl
        exact AR.ret0 (fn := Try.f9) hG Try.func9 (by kernel_rfl) hc0 (r0 := .sc (.bool false)) (by kernel_rfl) (WkV.refl _)
      case hf38 =>
        replace H := cond_f hb H
        refine AR.seg hG hm 3 [0, 5, 9, 11] (k' := [.loop [1, 1, 1, 1, 1, 1, 1, 0, 1, 0], .blk 2, .code [1, 1, 1, 1, 1, 1, 1, 1]]) (t' := [(0, .sl 5 (List.map (intA .u8) ports) f_ports), (5, .ptr 0 0 none), (9, .sl 59 (List.map Send.av ((runA v h1).1)) false), (11, .sc (.int .i64 (IntKind.i64.wrap (((i2 : Nat) : Int) + 1))))]) (h' := [.box 43 [.arr .u64 12 h1], .row 53 (List.map Act.av v) 1000000 false]) (by kernel_rfl) ?_
        refine AR.keep [0, 5, 9, 11] (t' := [(0, .sl 5 (List.map (intA .u8) ports) f_ports), (5, .ptr 0 0 none), (9, .sl 59 (List.map Send.av ((runA v h1).1)) false), (11, .sc (.int .i64 (IntKind.i64.wrap (((i2 : Nat) : Int) + 1))))]) (by kernel_rfl) ?_
        refine AR.loop_round ?_
        rw [hw]
        exact ih (i2 + 1) hd2 H
    case hf36 => exact absurd (hc.symm.trans hb) (by decide)

def podestalaw04_ActPlain_raw (ports : List Int) (tells : Bool) (h1 : List Int) : Option (Bool) :=
  (bif (decide ((((List.map (intA .u8) ports).length : Nat) : Int) > 7)) then
    some true
  else
    (podestalaw04_ActPlain_l0s ports ([] : List Act)).bind fun v =>
    (bif tells then
      fitO (v.length + [({ Kind := 3, Port := 0, Field := 0, Value := 0 } : Act)].length) 32 (
      (bif (((((List.map Send.av ((runA (v ++ [({ Kind := 3, Port := 0, Field := 0, Value := 0 } : Act)]) h1).1)).length : Nat) : Int) != (((List.map (intA .u8) ports).length : Nat) : Int)) || ((runA (v ++ [({ Kind := 3, Port := 0, Field := 0, Value := 0 } : Act)]) h1).2 != tells)) then
        some false
      else
        loopO (podestalaw04_ActPlain_l1s ports h1 ((runA (v ++ [({ Kind := 3, Port := 0, Field := 0, Value := 0 } : Act)]) h1).1) 0) fun v1 =>
        some true))
    else
      (bif (((((List.map Send.av ((runA v h1).1)).length : Nat) : Int) != (((List.map (intA .u8) ports).length : Nat) : Int)) || ((runA v h1).2 != tells)) then
        some false
      else
        loopO (podestalaw04_ActPlain_l2s ports h1 ((runA v h1).1) 0) fun v2 =>
        some true)))
theorem podestalaw04_ActPlain_walk (ports : List Int) (tells : Bool) (h1 : List Int) (f_ports : Bool) (r : Bool) (H : podestalaw04_ActPlain_raw ports tells h1 = some r) :
    ACalls Try.prog tab.S 9 [.sl 5 (List.map (intA .u8) ports) f_ports, .sc (.bool tells), .arr .u64 12 h1] [] (.sc (.bool r)) [] := by
  have hG := tab_ok
  have hm := mixed
  refine ACalls.of_AR (G := tab) podestalaw04_ActPlain_F (fn := Try.f9) Try.func9 (by kernel_rfl) (by kernel_rfl) (by kernel_rfl) (Nat.le_of_ble_eq_true (by kernel_rfl)) ?_
  intro c0 hc0
  replace hc0 : c0.m.length = 0 := hc0
  rw [podestalaw04_ActPlain_raw] at H
  refine AR.seg hG hm 5 [0, 1, 5, 14] (k' := [.code [1, 0, 1], .code [1, 1]]) (t' := [(0, .sl 5 (List.map (intA .u8) ports) f_ports), (1, .sc (.bool tells)), (5, .ptr 0 0 none), (14, .sc (.bool (decide ((((List.map (intA .u8) ports).length : Nat) : Int) > 7))))]) (h' := [.box 43 [.arr .u64 12 h1]]) (by kernel_rfl) ?_
  refine AR.cond (.tmp 14) (decide ((((List.map (intA .u8) ports).length : Nat) : Int) > 7)) (by kernel_rfl) (by kernel_rfl) (fun hb => ?ht1) (fun hb => ?hf1)
  case ht1 =>
    replace H := cond_t hb H
    refine AR.seg hG hm 1 [] (k' := [.code [1, 0, 1, 0, 0], .code [1, 0, 1, 0, 1], .code [1, 1]]) (t' := []) (h' := [.box 43 [.arr .u64 12 h1]]) (by kernel_rfl) ?_
    refine AR.reg hm podestalaw04_ActPlain_k0 (by kernel_rfl) ?_
    refine DK.op' [15] (t' := [(15, .sc (.bool true))]) (h' := [.box 43 [.arr .u64 12 h1]]) (LSpec.callP' (podestalaw04_answers_ok) (by kernel_rfl)) (by kernel_rfl) rfl (by kernel_rfl) rfl ?_
    refine DK.seg hG 1 [6] (t' := [(6, .sc (.bool true))]) (h' := [.box 43 [.arr .u64 12 h1]]) (by kernel_rfl) rfl ?_
    refine DK.done (by kernel_rfl) (by kernel_rfl) ?_
    obtain rfl := Option.some.inj H
    exact AR.ret0 (fn := Try.f9) hG Try.func9 (by kernel_rfl) hc0 (r0 := .sc (.bool true)) (by kernel_rfl) (WkV.refl _)
  case hf1 =>
    replace H := cond_f hb H
    refine AR.seg hG hm 7 [0, 1, 5, 7, 8] (k' := [.code [1, 1, 1, 0, 1, 0], .blk 0, .code [1, 1, 1, 1]]) (t' := [(0, .sl 5 (List.map (intA .u8) ports) f_ports), (1, .sc (.bool tells)), (5, .ptr 0 0 none), (7, .sl 0 [] true), (8, .sc (.int .i64 0))]) (h' := [.box 43 [.arr .u64 12 h1]]) (by kernel_rfl) ?_
    refine AR.adoptB' 7 53 (t' := [(7, .own 1 1000000), (0, .sl 5 (List.map (intA .u8) ports) f_ports), (1, .sc (.bool tells)), (5, .ptr 0 0 none), (8, .sc (.int .i64 0))]) (h' := [.box 43 [.arr .u64 12 h1], .row 53 (List.map Act.av ([] : List Act)) 1000000 true]) (by kernel_rfl) ?_
    refine AR.keep [0, 1, 5, 7, 8] (t' := [(0, .sl 5 (List.map (intA .u8) ports) f_ports), (1, .sc (.bool tells)), (5, .ptr 0 0 none), (7, .own 1 1000000), (8, .sc (.int .i64 0))]) (by kernel_rfl) ?_
    obtain ⟨v, hv, H⟩ := Option.bind_eq_some_iff.1 H
    refine AR.into (by kernel_rfl) ?_
    refine podestalaw04_ActPlain_l0_walk ports tells h1 f_ports r c0 hc0 v ?_ ports 0 rfl ([] : List Act) hv
    refine AR.seg hG hm 3 [0, 1, 5, 7, 33] (k' := [.code [1, 1, 1, 1, 0, 1], .code [1, 1, 1, 1, 1]]) (t' := [(0, .sl 5 (List.map (intA .u8) ports) f_ports), (1, .sc (.bool tells)), (5, .ptr 0 0 none), (7, .own 1 1000000), (33, .sc (.bool tells))]) (h' := [.box 43 [.arr .u64 12 h1], .row 53 (List.map Act.av v) 1000000 true]) (by kernel_rfl) ?_
    refine AR.cond (.tmp 33) tells (by kernel_rfl) (by kernel_rfl) (fun hb => ?ht8) (fun hb => ?hf8)
    case ht8 =>
      replace H := cond_t hb H
      refine AR.reg hm podestalaw04_ActPlain_k2 (by kernel_rfl) ?_
      refine DK.seg hG 3 [0, 1, 5, 34, 36] (t' := [(0, .sl 5 (List.map (intA .u8) ports) f_ports), (1, .sc (.bool tells)), (5, .ptr 0 0 none), (34, .own 1 1000000), (36, .sl 53 (List.map Act.av [({ Kind := 3, Port := 0, Field := 0, Value := 0 } : Act)]) true)]) (h' := [.box 43 [.arr .u64 12 h1], .row 53 (List.map Act.av v) 1000000 true]) (by kernel_rfl) rfl ?_
      obtain ⟨hfit, H⟩ := fitO_some H
      refine DK.op' [0, 1, 5, 37] (t' := [(0, .sl 5 (List.map (intA .u8) ports) f_ports), (1, .sc (.bool tells)), (5, .ptr 0 0 none), (37, .own 1 1000001)]) (h' := [.box 43 [.arr .u64 12 h1], .row 53 (List.map Act.av (v ++ [({ Kind := 3, Port := 0, Field := 0, Value := 0 } : Act)])) 1000001 true]) (LSpec.append' hG Act.av v [({ Kind := 3, Port := 0, Field := 0, Value := 0 } : Act)] 1 1000000 53 32 hfit (by kernel_rfl)) (by kernel_rfl) (by kernel_rfl) (by kernel_rfl) rfl ?_
      refine DK.seg hG 1 [0, 1, 5, 7] (t' := [(0, .sl 5 (List.map (intA .u8) ports) f_ports), (1, .sc (.bool tells)), (5, .ptr 0 0 none), (7, .own 1 1000001)]) (h' := [.box 43 [.arr .u64 12 h1], .row 53 (List.map Act.av (v ++ [({ Kind := 3, Port := 0, Field := 0, Value := 0 } : Act)])) 1000001 true]) (by kernel_rfl) rfl ?_
      refine DK.done (by kernel_rfl) (by kernel_rfl) ?_
      refine AR.seg hG hm 1 [0, 1, 5, 7] (k' := [.code [1, 1, 1, 1, 1, 0], .code [1, 1, 1, 1, 1, 1]]) (t' := [(0, .sl 5 (List.map (intA .u8) ports) f_ports), (1, .sc (.bool tells)), (5, .ptr 0 0 none), (7, .own 1 1000001)]) (h' := [.box 43 [.arr .u64 12 h1], .row 53 (List.map Act.av (v ++ [({ Kind := 3, Port := 0, Field := 0, Value := 0 } : Act)])) 1000001 true]) (by kernel_rfl) ?_
      refine AR.reg hm podestalaw04_ActPlain_k3 (by kernel_rfl) ?_
      refine DK.seg hG 2 [0, 1, 5, 39, 40] (t' := [(0, .sl 5 (List.map (intA .u8) ports) f_ports), (1, .sc (.bool tells)), (5, .ptr 0 0 none), (39, .own 1 1000001), (40, .arr .u64 12 h1)]) (h' := [.box 43 [.arr .u64 12 h1], .row 53 (List.map Act.av (v ++ [({ Kind := 3, Port := 0, Field := 0, Value := 0 } : Act)])) 1000001 true]) (by kernel_rfl) rfl ?_
      refine DK.op' [0, 1, 5, 41] (t' := [(0, .sl 5 (List.map (intA .u8) ports) f_ports), (1, .sc (.bool tells)), (5, .ptr 0 0 none), (41, .tup [.sl 59 (List.map Send.av ((runA (v ++ [({ Kind := 3, Port := 0, Field := 0, Value := 0 } : Act)]) h1).1)) false, .sc (.bool ((runA (v ++ [({ Kind := 3, Port := 0, Field := 0, Value := 0 } : Act)]) h1).2))])]) (h' := [.box 43 [.arr .u64 12 h1], .row 53 (List.map Act.av (v ++ [({ Kind := 3, Port := 0, Field := 0, Value := 0 } : Act)])) 1000001 false]) (LSpec.callC' [1] (act_Run_ok (v ++ [({ Kind := 3, Port := 0, Field := 0, Value := 0 } : Act)]) h1 false) (by kernel_rfl) (by kernel_rfl)) (by kernel_rfl) (by kernel_rfl) (by kernel_rfl) rfl ?_
      refine DK.seg hG 5 [0, 1, 5, 9, 10] (t' := [(0, .sl 5 (List.map (intA .u8) ports) f_ports), (1, .sc (.bool tells)), (5, .ptr 0 0 none), (9, .sl 59 (List.map Send.av ((runA (v ++ [({ Kind := 3, Port := 0, Field := 0, Value := 0 } : Act)]) h1).1)) false), (10, .sc (.bool ((runA (v ++ [({ Kind := 3, Port := 0, Field := 0, Value := 0 } : Act)]) h1).2)))]) (h' := [.box 43 [.arr .u64 12 h1], .row 53 (List.map Act.av (v ++ [({ Kind := 3, Port := 0, Field := 0, Value := 0 } : Act)])) 1000001 false]) (by kernel_rfl) rfl ?_
      refine DK.done (by kernel_rfl) (by kernel_rfl) ?_
      refine AR.seg hG hm 2 [0, 1, 5, 9, 10] (k' := [.code [1, 1, 1, 1, 1, 1, 0, 0], .code [1, 1, 1, 1, 1, 1, 0, 1], .code [1, 1, 1, 1, 1, 1, 1]]) (t' := [(0, .sl 5 (List.map (intA .u8) ports) f_ports), (1, .sc (.bool tells)), (5, .ptr 0 0 none), (9, .sl 59 (List.map Send.av ((runA (v ++ [({ Kind := 3, Port := 0, Field := 0, Value := 0 } : Act)]) h1).1)) false), (10, .sc (.bool ((runA (v ++ [({ Kind := 3, Port := 0, Field := 0, Value := 0 } : Act)]) h1).2)))]) (h' := [.box 43 [.arr .u64 12 h1], .row 53 (List.map Act.av (v ++ [({ Kind := 3, Port := 0, Field := 0, Value := 0 } : Act)])) 1000001 false]) (by kernel_rfl) ?_
      refine AR.reg hm podestalaw04_ActPlain_k4 (by kernel_rfl) ?_
      refine DK.seg hG 6 [0, 1, 5, 9, 10, 49] (t' := [(0, .sl 5 (List.map (intA .u8) ports) f_ports), (1, .sc (.bool tells)), (5, .ptr 0 0 none), (9, .sl 59 (List.map Send.av ((runA (v ++ [({ Kind := 3, Port := 0, Field := 0, Value := 0 } : Act)]) h1).1)) false), (10, .sc (.bool ((runA (v ++ [({ Kind := 3, Port := 0, Field := 0, Value := 0 } : Act)]) h1).2))), (49, .sc (.bool ((((List.map Send.av ((runA (v ++ [({ Kind := 3, Port := 0, Field := 0, Value := 0 } : Act)]) h1).1)).length : Nat) : Int) != (((List.map (intA .u8) ports).length : Nat) : Int))))]) (h' := [.box 43 [.arr .u64 12 h1], .row 53 (List.map Act.av (v ++ [({ Kind := 3, Port := 0, Field := 0, Value := 0 } : Act)])) 1000001 false]) (by kernel_rfl) rfl ?_
      refine DK.mux 49 ((((List.map Send.av ((runA (v ++ [({ Kind := 3, Port := 0, Field := 0, Value := 0 } : Act)]) h1).1)).length : Nat) : Int) != (((List.map (intA .u8) ports).length : Nat) : Int)) (j := 10) (h' := [.box 43 [.arr .u64 12 h1], .row 53 (List.map Act.av (v ++ [({ Kind := 3, Port := 0, Field := 0, Value := 0 } : Act)])) 1000001 false]) (by kernel_rfl) (fun z => [(0, .sl 5 (List.map (intA .u8) ports) f_ports), (5, .ptr 0 0 none), (9, .sl 59 (List.map Send.av ((runA (v ++ [({ Kind := 3, Port := 0, Field := 0, Value := 0 } : Act)]) h1).1)) false), (53, .sc (.bool (z || ((runA (v ++ [({ Kind := 3, Port := 0, Field := 0, Value := 0 } : Act)]) h1).2 != tells))))]) ?J9 (fun hb J => ?ht9) (fun hb J => ?hf9)
      case ht9 =>
        exact DK.seg hG 4 [0, 5, 9, 53] (by kernel_rfl) rfl J
      case hf9 =>
        exact DK.seg hG 4 [0, 5, 9, 53] (by kernel_rfl) rfl J
      refine DK.done (by kernel_rfl) (by kernel_rfl) ?_
      refine AR.cond (.tmp 53) (((((List.map Send.av ((runA (v ++ [({ Kind := 3, Port := 0, Field := 0, Value := 0 } : Act)]) h1).1)).length : Nat) : Int) != (((List.map (intA .u8) ports).length : Nat) : Int)) || ((runA (v ++ [({ Kind := 3, Port := 0, Field := 0, Value := 0 } : Act)]) h1).2 != tells)) (by kernel_rfl) (by kernel_rfl) (fun hb => ?ht10) (fun hb => ?hf10)
      case ht10 =>
        replace H := cond_t hb H
        refine AR.seg hG hm 2 [6] (k' := [.code [1, 1, 1, 1, 1, 1, 0, 1, 0, 1], .code [1, 1, 1, 1, 1, 1, 1]]) (t' := [(6, .sc (.bool false))]) (h' := [.box 43 [.arr .u64 12 h1], .row 53 (List.map Act.av (v ++ [({ Kind := 3, Port := 0, Field := 0, Value := 0 } : Act)])) 1000001 false]) (by kernel_rfl) ?_
        obtain rfl := Option.some.inj H
        exact AR.ret0 (fn := Try.f9) hG Try.func9 (by kernel_rfl) hc0 (r0 := .sc (.bool false)) (by kernel_rfl) (WkV.refl _)
      case hf10 =>
        replace H := cond_f hb H
        refine AR.seg hG hm 5 [0, 5, 9, 11] (k' := [.code [1, 1, 1, 1, 1, 1, 1, 0, 1, 0], .blk 2, .code [1, 1, 1, 1, 1, 1, 1, 1]]) (t' := [(0, .sl 5 (List.map (intA .u8) ports) f_ports), (5, .ptr 0 0 none), (9, .sl 59 (List.map Send.av ((runA (v ++ [({ Kind := 3, Port := 0, Field := 0, Value := 0 } : Act)]) h1).1)) false), (11, .sc (.int .i64 0))]) (h' := [.box 43 [.arr .u64 12 h1], .row 53 (List.map Act.av (v ++ [({ Kind := 3, Port := 0, Field := 0, Value := 0 } : Act)])) 1000001 false]) (by kernel_rfl) ?_
        refine AR.norm' 1 1000000 hc0 (t' := [(0, .sl 5 (List.map (intA .u8) ports) f_ports), (5, .ptr 0 0 none), (9, .sl 59 (List.map Send.av ((runA (v ++ [({ Kind := 3, Port := 0, Field := 0, Value := 0 } : Act)]) h1).1)) false), (11, .sc (.int .i64 0))]) (h' := [.box 43 [.arr .u64 12 h1], .row 53 (List.map Act.av (v ++ [({ Kind := 3, Port := 0, Field := 0, Value := 0 } : Act)])) 1000000 false]) (by kernel_rfl) ?_
        rcases loopO_some H with ⟨v1, hv, H⟩ | hv
        case inr =>
          refine AR.into (by kernel_rfl) ?_
          exact podestalaw04_ActPlain_l1_walk ports tells h1 v f_ports _ c0 hc0 (.inr _) (fun _ e => by cases e) (fun _ e => (Sum.inr.inj e).symm) ((runA (v ++ [({ Kind := 3, Port := 0, Field := 0, Value := 0 } : Act)]) h1).1) 0 rfl hv
        refine AR.into (by kernel_rfl) ?_
        refine podestalaw04_ActPlain_l1_walk ports tells h1 v f_ports r c0 hc0 (.inl v1) (fun w e => ?_) (fun _ e => by cases e) ((runA (v ++ [({ Kind := 3, Port := 0, Field := 0, Value := 0 } : Act)]) h1).1) 0 rfl hv
        have e := Sum.inl.inj e
        subst e
        refine AR.seg hG hm 1 [] (k' := [.code [1, 1, 1, 1, 1, 1, 1, 1, 0], .code [1, 1, 1, 1, 1, 1, 1, 1, 1]]) (t' := []) (h' := [.box 43 [.arr .u64 12 h1], .row 53 (List.map Act.av (v ++ [({ Kind := 3, Port := 0, Field := 0, Value := 0 } : Act)])) 1000000 false]) (by kernel_rfl) ?_
        refine AR.reg hm podestalaw04_ActPlain_k6 (by kernel_rfl) ?_
        refine DK.op' [82] (t' := [(82, .sc (.bool true))]) (h' := [.box 43 [.arr .u64 12 h1], .row 53 (List.map Act.av (v ++ [({ Kind := 3, Port := 0, Field := 0, Value := 0 } : Act)])) 1000000 false]) (LSpec.callP' (podestalaw04_answers_ok) (by kernel_rfl)) (by kernel_rfl) rfl (by kernel_rfl) rfl ?_
        refine DK.seg hG 1 [6] (t' := [(6, .sc (.bool true))]) (h' := [.box 43 [.arr .u64 12 h1], .row 53 (List.map Act.av (v ++ [({ Kind := 3, Port := 0, Field := 0, Value := 0 } : Act)])) 1000000 false]) (by kernel_rfl) rfl ?_
        refine DK.done (by kernel_rfl) (by kernel_rfl) ?_
        obtain rfl := Option.some.inj H
        exact AR.ret0 (fn := Try.f9) hG Try.func9 (by kernel_rfl) hc0 (r0 := .sc (.bool true)) (by kernel_rfl) (WkV.refl _)
    case hf8 =>
      replace H := cond_f hb H
      refine AR.seg hG hm 2 [0, 1, 5, 7] (k' := [.code [1, 1, 1, 1, 1, 0], .code [1, 1, 1, 1, 1, 1]]) (t' := [(0, .sl 5 (List.map (intA .u8) ports) f_ports), (1, .sc (.bool tells)), (5, .ptr 0 0 none), (7, .own 1 1000000)]) (h' := [.box 43 [.arr .u64 12 h1], .row 53 (List.map Act.av v) 1000000 true]) (by kernel_rfl) ?_
      refine AR.reg hm podestalaw04_ActPlain_k7 (by kernel_rfl) ?_
      refine DK.seg hG 2 [0, 1, 5, 39, 40] (t' := [(0, .sl 5 (List.map (intA .u8) ports) f_ports), (1, .sc (.bool tells)), (5, .ptr 0 0 none), (39, .own 1 1000000), (40, .arr .u64 12 h1)]) (h' := [.box 43 [.arr .u64 12 h1], .row 53 (List.map Act.av v) 1000000 true]) (by kernel_rfl) rfl ?_
      refine DK.op' [0, 1, 5, 41] (t' := [(0, .sl 5 (List.map (intA .u8) ports) f_ports), (1, .sc (.bool tells)), (5, .ptr 0 0 none), (41, .tup [.sl 59 (List.map Send.av ((runA v h1).1)) false, .sc (.bool ((runA v h1).2))])]) (h' := [.box 43 [.arr .u64 12 h1], .row 53 (List.map Act.av v) 1000000 false]) (LSpec.callC' [1] (act_Run_ok v h1 false) (by kernel_rfl) (by kernel_rfl)) (by kernel_rfl) (by kernel_rfl) (by kernel_rfl) rfl ?_
      refine DK.seg hG 5 [0, 1, 5, 9, 10] (t' := [(0, .sl 5 (List.map (intA .u8) ports) f_ports), (1, .sc (.bool tells)), (5, .ptr 0 0 none), (9, .sl 59 (List.map Send.av ((runA v h1).1)) false), (10, .sc (.bool ((runA v h1).2)))]) (h' := [.box 43 [.arr .u64 12 h1], .row 53 (List.map Act.av v) 1000000 false]) (by kernel_rfl) rfl ?_
      refine DK.done (by kernel_rfl) (by kernel_rfl) ?_
      refine AR.seg hG hm 2 [0, 1, 5, 9, 10] (k' := [.code [1, 1, 1, 1, 1, 1, 0, 0], .code [1, 1, 1, 1, 1, 1, 0, 1], .code [1, 1, 1, 1, 1, 1, 1]]) (t' := [(0, .sl 5 (List.map (intA .u8) ports) f_ports), (1, .sc (.bool tells)), (5, .ptr 0 0 none), (9, .sl 59 (List.map Send.av ((runA v h1).1)) false), (10, .sc (.bool ((runA v h1).2)))]) (h' := [.box 43 [.arr .u64 12 h1], .row 53 (List.map Act.av v) 1000000 false]) (by kernel_rfl) ?_
      refine AR.reg hm podestalaw04_ActPlain_k8 (by kernel_rfl) ?_
      refine DK.seg hG 6 [0, 1, 5, 9, 10, 49] (t' := [(0, .sl 5 (List.map (intA .u8) ports) f_ports), (1, .sc (.bool tells)), (5, .ptr 0 0 none), (9, .sl 59 (List.map Send.av ((runA v h1).1)) false), (10, .sc (.bool ((runA v h1).2))), (49, .sc (.bool ((((List.map Send.av ((runA v h1).1)).length : Nat) : Int) != (((List.map (intA .u8) ports).length : Nat) : Int))))]) (h' := [.box 43 [.arr .u64 12 h1], .row 53 (List.map Act.av v) 1000000 false]) (by kernel_rfl) rfl ?_
      refine DK.mux 49 ((((List.map Send.av ((runA v h1).1)).length : Nat) : Int) != (((List.map (intA .u8) ports).length : Nat) : Int)) (j := 10) (h' := [.box 43 [.arr .u64 12 h1], .row 53 (List.map Act.av v) 1000000 false]) (by kernel_rfl) (fun z => [(0, .sl 5 (List.map (intA .u8) ports) f_ports), (5, .ptr 0 0 none), (9, .sl 59 (List.map Send.av ((runA v h1).1)) false), (53, .sc (.bool (z || ((runA v h1).2 != tells))))]) ?J24 (fun hb J => ?ht24) (fun hb J => ?hf24)
      case ht24 =>
        exact DK.seg hG 4 [0, 5, 9, 53] (by kernel_rfl) rfl J
      case hf24 =>
        exact DK.seg hG 4 [0, 5, 9, 53] (by kernel_rfl) rfl J
      refine DK.done (by kernel_rfl) (by kernel_rfl) ?_
      refine AR.cond (.tmp 53) (((((List.map Send.av ((runA v h1).1)).length : Nat) : Int) != (((List.map (intA .u8) ports).length : Nat) : Int)) || ((runA v h1).2 != tells)) (by kernel_rfl) (by kernel_rfl) (fun hb => ?ht25) (fun hb => ?hf25)
      case ht25 =>
        replace H := cond_t hb H
        refine AR.seg hG hm 2 [6] (k' := [.code [1, 1, 1, 1, 1, 1, 0, 1, 0, 1], .code [1, 1, 1, 1, 1, 1, 1]]) (t' := [(6, .sc (.bool false))]) (h' := [.box 43 [.arr .u64 12 h1], .row 53 (List.map Act.av v) 1000000 false]) (by kernel_rfl) ?_
        obtain rfl := Option.some.inj H
        exact AR.ret0 (fn := Try.f9) hG Try.func9 (by kernel_rfl) hc0 (r0 := .sc (.bool false)) (by kernel_rfl) (WkV.refl _)
      case hf25 =>
        replace H := cond_f hb H
        refine AR.seg hG hm 5 [0, 5, 9, 11] (k' := [.code [1, 1, 1, 1, 1, 1, 1, 0, 1, 0], .blk 2, .code [1, 1, 1, 1, 1, 1, 1, 1]]) (t' := [(0, .sl 5 (List.map (intA .u8) ports) f_ports), (5, .ptr 0 0 none), (9, .sl 59 (List.map Send.av ((runA v h1).1)) false), (11, .sc (.int .i64 0))]) (h' := [.box 43 [.arr .u64 12 h1], .row 53 (List.map Act.av v) 1000000 false]) (by kernel_rfl) ?_
        rcases loopO_some H with ⟨v2, hv, H⟩ | hv
        case inr =>
          refine AR.into (by kernel_rfl) ?_
          exact podestalaw04_ActPlain_l2_walk ports tells h1 v f_ports _ c0 hc0 (.inr _) (fun _ e => by cases e) (fun _ e => (Sum.inr.inj e).symm) ((runA v h1).1) 0 rfl hv
        refine AR.into (by kernel_rfl) ?_
        refine podestalaw04_ActPlain_l2_walk ports tells h1 v f_ports r c0 hc0 (.inl v2) (fun w e => ?_) (fun _ e => by cases e) ((runA v h1).1) 0 rfl hv
        have e := Sum.inl.inj e
        subst e
        refine AR.seg hG hm 1 [] (k' := [.code [1, 1, 1, 1, 1, 1, 1, 1, 0], .code [1, 1, 1, 1, 1, 1, 1, 1, 1]]) (t' := []) (h' := [.box 43 [.arr .u64 12 h1], .row 53 (List.map Act.av v) 1000000 false]) (by kernel_rfl) ?_
        refine AR.reg hm podestalaw04_ActPlain_k10 (by kernel_rfl) ?_
        refine DK.op' [82] (t' := [(82, .sc (.bool true))]) (h' := [.box 43 [.arr .u64 12 h1], .row 53 (List.map Act.av v) 1000000 false]) (LSpec.callP' (podestalaw04_answers_ok) (by kernel_rfl)) (by kernel_rfl) rfl (by kernel_rfl) rfl ?_
        refine DK.seg hG 1 [6] (t' := [(6, .sc (.bool true))]) (h' := [.box 43 [.arr .u64 12 h1], .row 53 (List.map Act.av v) 1000000 false]) (by kernel_rfl) rfl ?_
        refine DK.done (by kernel_rfl) (by kernel_rfl) ?_
        obtain rfl := Option.some.inj H
        exact AR.ret0 (fn := Try.f9) hG Try.func9 (by kernel_rfl) hc0 (r0 := .sc (.bool true)) (by kernel_rfl) (WkV.refl _)

end Go.Proofs.Ytjchejmakdkioab

set_option linter.unusedVariables false
set_option linter.unusedSimpArgs false
set_option maxRecDepth 100000
set_option maxHeartbeats 4000000
namespace Go.Proofs.Ytjchejmakdkioab
open Go.Sh
theorem u64_nonneg {v : Int} (h : intW .u64 v) : 0 ≤ v := by
  unfold intW Go.Lit.wf at h
  rw [Bool.and_eq_true, decide_eq_true_eq, decide_eq_true_eq] at h
  exact h.1
theorem Act.wf_val {l : List Act} (w : ∀ y ∈ l, Act.wf y) : ∀ x ∈ l, 0 ≤ x.Value := fun x hx => u64_nonneg (w x hx).2.2.2
theorem runA_eq {l : List Act} {h : List Int} (w : ∀ y ∈ l, Act.wf y) : runA l h = runR l h := by
  unfold runA runR
  rw [act_Sound_eq (Act.wf_val w)]
theorem HeadOk_set {h : List Int} {n v : Int} (h0 : HeadOk h = true) (hf : fitsT n v = true) (hn : 0 ≤ n) : HeadOk (h.set n.toNat v) = true := by
  unfold HeadOk at h0 ⊢
  rw [List.all_eq_true] at h0 ⊢
  intro i hi
  have := h0 i hi
  rw [List.getD_eq_getElem?_getD] at this ⊢
  rw [List.getElem?_set]
  split
  · rename_i e
    split
    · rename_i hl
      have : ((i : Nat) : Int) = n := by omega
      rw [this]
      exact hf
    · rename_i hl
      rw [List.getElem?_eq_none (by omega)] at this
      exact this
  · exact this
theorem actOk_set {x : Act} (h : actOk x = true) (hk : (x.Kind == 2) = true) : 0 ≤ x.Field ∧ fitsT x.Field x.Value = true := by
  unfold actOk at h
  have h1 : (x.Kind == 1) = false := by
    rw [beq_iff_eq] at hk
    rw [hk]; rfl
  rw [h1, hk] at h
  simp only [cond_false, cond_true, Bool.and_eq_true, decide_eq_true_eq] at h
  exact ⟨h.1.1.2, h.2⟩
theorem run_heads : ∀ (l : List Act) (s : Bool × List Int × List Send), (∀ x ∈ l, actOk x = true) → HeadOk s.2.1 = true → (∀ y ∈ s.2.2, HeadOk y.Head = true) → ∀ y ∈ (l.foldl stepA_ s).2.2, HeadOk y.Head = true
  | [], s, _, _, h => h
  | x :: l, s, hl, h1, h2 => by
      rw [List.foldl_cons]
      refine run_heads l _ (fun y hy => hl y (by simp [hy])) ?_ ?_
      · unfold stepA_
        split
        · exact h1
        · split
          · rename_i hk
            obtain ⟨k1, k2⟩ := actOk_set (hl x (by simp)) hk
            exact HeadOk_set h1 k2 k1
          · exact h1
      · unfold stepA_
        split
        · intro y hy
          rcases List.mem_append.1 hy with hy | hy
          · exact h2 y hy
          · have : y = ⟨x.Port, s.2.1⟩ := by simpa using hy
            rw [this]
            exact h1
        · split <;> exact h2
theorem runR_heads {l : List Act} {h : List Int} (hh : HeadOk h = true) : ∀ y ∈ (runR l h).1, HeadOk y.Head = true := by
  unfold runR
  split
  · rename_i ho
    unfold ActsOk at ho
    rw [Bool.and_eq_true, List.all_eq_true] at ho
    exact run_heads l _ ho.1 hh (by simp)
  · simp
theorem ActRuns_true (l : List Act) (h : List Int) (wl : ∀ y ∈ l, Act.wf y) (wh : arrW .u64 12 h) (hl : l.length * 32 ≤ 140737488355328) : podestalaw04_ActRuns_raw l h = some true := by
  rw [podestalaw04_ActRuns_raw]
  cases (decide ((((List.map Act.av l).length : Nat) : Int) > 50))
  · simp only [cond_false, nil_app]
    rw [fitO_eq (by simp only [List.length_nil]; omega), runA_eq wl, act_Sound_eq (Act.wf_val wl), refActs_eq]
    simp only [bne_self_eq_false, Bool.or_false, cond_false]
    rw [cmp_loop (v := false) (podestalaw04_ActRuns_l0s l h) (runR l h).1 (fun x x1 => !((!((x.Port == x1.Port) && (x.Head == x1.Head))) || ((podestaref01_Head h) && (!(podestaref01_Head x.Head))))) (fun _ => rfl) (fun x r i => by rw [podestalaw04_ActRuns_l0s]; simp only [Bool.not_not]) _ 0 rfl]
    rw [List.drop_zero, zipAll_refl]
    · rfl
    · intro x hx
      rw [refHead_eq, refHead_eq]
      cases hh : HeadOk h
      · simp
      · rw [runR_heads hh x hx]
        simp
  · rfl
/-! ### ActPlain -/
def portOf (x : Int) : Int := IntKind.i64.wrap (1 + (IntKind.i64.wrap (Int.tmod x 16)))
theorem portOf_in {x : Int} (h : intW .u8 x) : 1 ≤ portOf x ∧ portOf x ≤ 16 := by
  unfold intW Go.Lit.wf at h
  rw [Bool.and_eq_true, decide_eq_true_eq, decide_eq_true_eq] at h
  have h1 : 0 ≤ x := h.1
  unfold portOf
  rw [Int.tmod_eq_emod_of_nonneg h1, wrap_eq (n := x % 16) (by omega) (by omega), wrap_eq (by omega) (by omega)]
  omega
def outAct (x : Int) : Act := { Kind := 1, Port := portOf x, Field := 0, Value := 0 }
def tellAct : Act := { Kind := 3, Port := 0, Field := 0, Value := 0 }
theorem Plain_l0s_eq : ∀ (ports : List Int) (l : List Act), (l.length + ports.length) * 32 ≤ 140737488355328 → podestalaw04_ActPlain_l0s ports l = some (l ++ ports.map outAct)
  | [], l, _ => by rw [podestalaw04_ActPlain_l0s, List.map_nil, List.append_nil]
  | x :: ports, l, hl => by
      rw [List.length_cons] at hl
      rw [podestalaw04_ActPlain_l0s, fitO_eq (by simp only [List.length_singleton]; omega), Plain_l0s_eq ports _ (by rw [List.length_append, List.length_singleton]; omega), List.map_cons, List.append_assoc]
      rfl
theorem run_outs (h : List Int) : ∀ (ports : List Int) (t : Bool) (out : List Send), (ports.map outAct).foldl stepA_ (t, h, out) = (t, h, out ++ ports.map fun x => ⟨portOf x, h⟩)
  | [], t, out => by simp
  | x :: ports, t, out => by
      rw [List.map_cons, List.foldl_cons]
      have : stepA_ (t, h, out) (outAct x) = (t, h, out ++ [⟨portOf x, h⟩]) := rfl
      rw [this, run_outs h ports t _, List.map_cons, List.append_assoc]
      rfl
theorem outAct_ok {x : Int} (h : intW .u8 x) : actOk (outAct x) = true := by
  obtain ⟨h1, h2⟩ := portOf_in h
  unfold actOk outAct
  simp [h1, h2]
theorem plain_loop (L : List Send → Nat → Option (Sum Unit Bool)) (ports : List Int) (h : List Int) (h0 : ∀ i, L [] i = some (.inl ())) (h1 : ∀ x rest i, L (x :: rest) i = (ixO ports ((i : Nat) : Int)).bind fun x1 => bif ((x.Port != portOf x1) || (!(x.Head == h))) then some (.inr false) else L rest (i + 1)) :
    L (ports.map fun x => ⟨portOf x, h⟩) 0 = some (.inl ()) := by
  rw [cmp_loop (v := false) L ports (fun x x1 => !((x.Port != portOf x1) || (!(x.Head == h)))) h0 (fun x r i => by rw [h1]; simp only [Bool.not_not]) _ 0 (by rw [List.length_map]; rfl), List.drop_zero]
  have : ∀ (ps : List Int), zipAll (fun (x : Send) x1 => !((x.Port != portOf x1) || (!(x.Head == h)))) (ps.map fun x => ⟨portOf x, h⟩) ps = true := by
    intro ps
    induction ps with
    | nil => rfl
    | cons p ps ih =>
      rw [List.map_cons, zipAll, ih]
      simp
  rw [this ports]
  rfl
theorem ActPlain_true (ports : List Int) (tells : Bool) (h : List Int) (wp : ∀ y ∈ ports, intW .u8 y) (wt : True) (wh : arrW .u64 12 h) (hl : ports.length * 1 ≤ 140737488355328) : podestalaw04_ActPlain_raw ports tells h = some true := by
  rw [podestalaw04_ActPlain_raw]
  by_cases h7 : ports.length > 7
  · rw [List.length_map, decide_eq_true (by omega)]
    rfl
  · rw [decide_eq_false (by rw [List.length_map]; omega)]
    simp only [cond_false]
    rw [Plain_l0s_eq ports [] (by simp only [List.length_nil]; omega), nil_app, Option.bind_some]
    have hok : ∀ x ∈ ports.map outAct, actOk x = true := by
      intro x hx
      obtain ⟨p, hp, rfl⟩ := List.mem_map.1 hx
      exact outAct_ok (wp p hp)
    have hv : ∀ x ∈ ports.map outAct, 0 ≤ x.Value := by
      intro x hx
      obtain ⟨p, hp, rfl⟩ := List.mem_map.1 hx
      exact Int.le_refl _
    cases tells
    · have hr : runA (ports.map outAct) h = (ports.map (fun x => (⟨portOf x, h⟩ : Send)), false) := by
        unfold runA
        rw [act_Sound_eq hv, if_pos (by unfold ActsOk; rw [Bool.and_eq_true, List.all_eq_true]; exact ⟨hok, decide_eq_true (by rw [List.length_map]; omega)⟩)]
        unfold runF
        rw [run_outs]
        rfl
      simp only [cond_false]
      rw [hr]
      have hlen : ((((List.map Send.av (ports.map (fun x => (⟨portOf x, h⟩ : Send)))).length : Nat) : Int) != (((List.map (intA .u8) ports).length : Nat) : Int)) = false := by
        rw [len_bne, List.length_map]; simp
      simp only [hlen, bne_self_eq_false, Bool.or_false, cond_false]
      rw [plain_loop (podestalaw04_ActPlain_l2s ports h) ports h (fun _ => rfl) (fun _ _ _ => rfl)]
      rfl
    · have hok2 : ActsOk (ports.map outAct ++ [tellAct]) = true := by
        unfold ActsOk
        rw [Bool.and_eq_true, List.all_eq_true]
        refine ⟨fun x hx => ?_, decide_eq_true (by rw [List.length_append, List.length_map]; simp only [List.length_singleton]; omega)⟩
        rcases List.mem_append.1 hx with hx | hx
        · exact hok x hx
        · have : x = tellAct := by simpa using hx
          rw [this]; rfl
      have hr : runA (ports.map outAct ++ [tellAct]) h = (ports.map (fun x => (⟨portOf x, h⟩ : Send)), true) := by
        unfold runA
        rw [act_Sound_eq (fun x hx => by
          rcases List.mem_append.1 hx with hx | hx
          · exact hv x hx
          · have : x = tellAct := by simpa using hx
            rw [this]; exact Int.le_refl _), if_pos hok2]
        unfold runF
        rw [List.foldl_append, run_outs]
        rfl
      simp only [cond_true]
      rw [fitO_eq (by rw [List.length_map]; simp only [List.length_singleton]; omega)]
      have hr' : runA (ports.map outAct ++ [({ Kind := 3, Port := 0, Field := 0, Value := 0 } : Act)]) h = (ports.map (fun x => (⟨portOf x, h⟩ : Send)), true) := hr
      rw [hr']
      have hlen : ((((List.map Send.av (ports.map (fun x => (⟨portOf x, h⟩ : Send)))).length : Nat) : Int) != (((List.map (intA .u8) ports).length : Nat) : Int)) = false := by
        rw [len_bne, List.length_map]; simp
      simp only [hlen, bne_self_eq_false, Bool.or_false, cond_false]
      rw [plain_loop (podestalaw04_ActPlain_l1s ports h) ports h (fun _ => rfl) (fun _ _ _ => rfl)]
      rfl

end Go.Proofs.Ytjchejmakdkioab

set_option linter.unusedVariables false
set_option linter.unusedSimpArgs false
set_option maxRecDepth 100000
set_option maxHeartbeats 4000000
namespace Go.Proofs.Ytjchejmakdkioab
open Go.Sh
/-! ### slices.Equal: function 41 -/
noncomputable def slices_Equal__api_Act_F : Go.Sh.Fn := ⟨41, bodyOf Try.f41, 26⟩
def slices_Equal__api_Act_k0 : List Kd := [.pure, .pure, .pure, .pure, .pure, .pure, .pure, .pure, .pure]
def slices_Equal__api_Act_l0s (s2 : List Act) : List Act → Nat → Option (Sum (Unit) (Bool))
  | [], t13 =>
    some (.inl ())
  | x :: rest, t13 =>
    (ixO s2 ((t13 : Nat) : Int)).bind fun x1 =>
    (bif (!((x.Kind == x1.Kind) && ((x.Port == x1.Port) && ((x.Field == x1.Field) && (x.Value == x1.Value))))) then
      some (.inr false)
    else
      slices_Equal__api_Act_l0s s2 rest (t13 + 1) )
theorem slices_Equal__api_Act_l0_walk (s1 : List Act) (s2 : List Act) (f_s1 : Bool) (f_s2 : Bool) (r : Bool) (c0 : Ctx) (hc0 : c0.m.length = 0) (res : Sum (Unit) (Bool)) (J : ∀ w : Unit, res = .inl w → AR Try.prog tab slices_Equal__api_Act_F c0 (Rp tab.S c0 (.sc (.bool r)) []) [.code [1, 1, 1]] [] []) (Jr : ∀ w, res = .inr w → w = r) :
    ∀ (rest : List Act) (t13 : Nat) (hd : s1.drop t13 = rest) (H : slices_Equal__api_Act_l0s s2 rest t13 = some res), AR Try.prog tab slices_Equal__api_Act_F c0 (Rp tab.S c0 (.sc (.bool r)) []) [.code [1, 1, 0, 1, 0, 0], .loop [1, 1, 0, 1, 0], .blk 0, .code [1, 1, 1]] [(0, .sl 53 (List.map Act.av s1) f_s1), (1, .sl 53 (List.map Act.av s2) f_s2), (12, .sc (.int .i64 (((List.map Act.av s1).length : Nat) : Int))), (13, .sc (.int .i64 ((t13 : Nat) : Int)))] [] := by
  have hG := tab_ok
  have hm := mixed
  intro rest
  induction rest with
  | nil =>
    intro t13 hd  H
    rw [slices_Equal__api_Act_l0s] at H
    refine AR.facts 0 rfl fun hf => ?_
    have hlen : s1.length ≤ 9223372036854775807 := by have hq := len_ok hf.2.1; rw [List.length_map] at hq; exact hq
    have hge : s1.length ≤ t13 := List.drop_eq_nil_iff.1 hd
    have hc : (decide (((t13 : Nat) : Int) < (((List.map Act.av s1).length : Nat) : Int))) = false := by rw [List.length_map]; exact decide_eq_false (by omega)
    refine AR.seg hG hm 3 [0, 1, 12, 13, 14] (k' := [.code [1, 1, 0, 1, 0, 0, 1, 0], .code [1, 1, 0, 1, 0, 0, 1, 1], .loop [1, 1, 0, 1, 0], .blk 0, .code [1, 1, 1]]) (t' := [(0, .sl 53 (List.map Act.av s1) f_s1), (1, .sl 53 (List.map Act.av s2) f_s2), (12, .sc (.int .i64 (((List.map Act.av s1).length : Nat) : Int))), (13, .sc (.int .i64 ((t13 : Nat) : Int))), (14, .sc (.bool (decide (((t13 : Nat) : Int) < (((List.map Act.av s1).length : Nat) : Int)))))]) (h' := []) (by kernel_rfl) ?_
    refine AR.cond (.tmp 14) (decide (((t13 : Nat) : Int) < (((List.map Act.av s1).length : Nat) : Int))) (by kernel_rfl) (by kernel_rfl) (fun hb => ?ht8) (fun hb => ?hf8)
    case ht8 => exact absurd (hb.symm.trans hc) (by decide)
    case hf8 =>
      refine AR.seg hG hm 1 [] (k' := [.code [1, 1, 1]]) (t' := []) (h' := []) (by kernel_rfl) ?_
      refine AR.keep [] (t' := []) (by kernel_rfl) ?_
      exact J () (Option.some.inj H).symm
  | cons x rest ih =>
    intro t13 hd  H
    rw [slices_Equal__api_Act_l0s] at H
    refine AR.facts 0 rfl fun hf => ?_
    have hlen : s1.length ≤ 9223372036854775807 := by have hq := len_ok hf.2.1; rw [List.length_map] at hq; exact hq
    obtain ⟨hlt, hv_t13, hd2⟩ := drop_cons hd
    have hc : (decide (((t13 : Nat) : Int) < (((List.map Act.av s1).length : Nat) : Int))) = true := by rw [List.length_map]; exact decide_eq_true (by omega)
    have hw : IntKind.i64.wrap (((t13 : Nat) : Int) + 1) = ((t13 + 1 : Nat) : Int) := wrapI_succ (by omega)
    refine AR.seg hG hm 3 [0, 1, 12, 13, 14] (k' := [.code [1, 1, 0, 1, 0, 0, 1, 0], .code [1, 1, 0, 1, 0, 0, 1, 1], .loop [1, 1, 0, 1, 0], .blk 0, .code [1, 1, 1]]) (t' := [(0, .sl 53 (List.map Act.av s1) f_s1), (1, .sl 53 (List.map Act.av s2) f_s2), (12, .sc (.int .i64 (((List.map Act.av s1).length : Nat) : Int))), (13, .sc (.int .i64 ((t13 : Nat) : Int))), (14, .sc (.bool (decide (((t13 : Nat) : Int) < (((List.map Act.av s1).length : Nat) : Int)))))]) (h' := []) (by kernel_rfl) ?_
    refine AR.cond (.tmp 14) (decide (((t13 : Nat) : Int) < (((List.map Act.av s1).length : Nat) : Int))) (by kernel_rfl) (by kernel_rfl) (fun hb => ?ht9) (fun hb => ?hf9)
    case ht9 =>
      refine AR.seg hG hm 6 [0, 1, 5, 12, 13] (k' := [.code [1, 1, 0, 1, 0, 0, 1, 1, 0, 0, 1, 0], .code [1, 1, 0, 1, 0, 0, 1, 1, 0, 0, 1, 1], .blk 1, .code [1, 1, 0, 1, 0, 0, 1, 1, 1], .loop [1, 1, 0, 1, 0], .blk 0, .code [1, 1, 1]]) (t' := [(0, .sl 53 (List.map Act.av s1) f_s1), (1, .sl 53 (List.map Act.av s2) f_s2), (5, .sc (.int .i64 ((t13 : Nat) : Int))), (12, .sc (.int .i64 (((List.map Act.av s1).length : Nat) : Int))), (13, .sc (.int .i64 ((t13 : Nat) : Int)))]) (h' := []) (by kernel_rfl) ?_
      refine AR.reg hm slices_Equal__api_Act_k0 (by kernel_rfl) ?_
      refine DK.seg hG 2 [0, 1, 5, 12, 13, 16, 17] (t' := [(0, .sl 53 (List.map Act.av s1) f_s1), (1, .sl 53 (List.map Act.av s2) f_s2), (5, .sc (.int .i64 ((t13 : Nat) : Int))), (12, .sc (.int .i64 (((List.map Act.av s1).length : Nat) : Int))), (13, .sc (.int .i64 ((t13 : Nat) : Int))), (16, .sl 53 (List.map Act.av s1) f_s1), (17, .sc (.int .i64 ((t13 : Nat) : Int)))]) (h' := []) (by kernel_rfl) rfl ?_
      refine DK.op' [0, 1, 5, 12, 13, 18] (t' := [(0, .sl 53 (List.map Act.av s1) f_s1), (1, .sl 53 (List.map Act.av s2) f_s2), (5, .sc (.int .i64 ((t13 : Nat) : Int))), (12, .sc (.int .i64 (((List.map Act.av s1).length : Nat) : Int))), (13, .sc (.int .i64 ((t13 : Nat) : Int))), (18, .ep [.sc (.int .i64 x.Kind), .sc (.int .i64 x.Port), .sc (.int .i64 x.Field), .sc (.int .u64 x.Value)] 0 none)]) (h' := []) (LSpec.index' (r := Act.av x) (fs := [.sc (.int .i64 x.Kind), .sc (.int .i64 x.Port), .sc (.int .i64 x.Field), .sc (.int .u64 x.Value)]) hG (rows := List.map Act.av s1) (j := ((t13 : Nat) : Int)) (by kernel_rfl) (ixO_map hv_t13 _) (by kernel_rfl)) (by kernel_rfl) rfl (by kernel_rfl) rfl ?_
      refine DK.seg hG 3 [0, 1, 12, 13, 19, 20, 21] (t' := [(0, .sl 53 (List.map Act.av s1) f_s1), (1, .sl 53 (List.map Act.av s2) f_s2), (12, .sc (.int .i64 (((List.map Act.av s1).length : Nat) : Int))), (13, .sc (.int .i64 ((t13 : Nat) : Int))), (19, Act.av x), (20, .sl 53 (List.map Act.av s2) f_s2), (21, .sc (.int .i64 ((t13 : Nat) : Int)))]) (h' := []) (by kernel_rfl) rfl ?_
      obtain ⟨x1, hv, H⟩ := Option.bind_eq_some_iff.1 H
      refine DK.op' [0, 1, 12, 13, 19, 22] (t' := [(0, .sl 53 (List.map Act.av s1) f_s1), (1, .sl 53 (List.map Act.av s2) f_s2), (12, .sc (.int .i64 (((List.map Act.av s1).length : Nat) : Int))), (13, .sc (.int .i64 ((t13 : Nat) : Int))), (19, Act.av x), (22, .ep [.sc (.int .i64 x1.Kind), .sc (.int .i64 x1.Port), .sc (.int .i64 x1.Field), .sc (.int .u64 x1.Value)] 0 none)]) (h' := []) (LSpec.index' (r := Act.av x1) (fs := [.sc (.int .i64 x1.Kind), .sc (.int .i64 x1.Port), .sc (.int .i64 x1.Field), .sc (.int .u64 x1.Value)]) hG (rows := List.map Act.av s2) (j := ((t13 : Nat) : Int)) (by kernel_rfl) (ixO_map hv _) (by kernel_rfl)) (by kernel_rfl) rfl (by kernel_rfl) rfl ?_
      refine DK.seg hG 1 [0, 1, 12, 13, 19, 23] (t' := [(0, .sl 53 (List.map Act.av s1) f_s1), (1, .sl 53 (List.map Act.av s2) f_s2), (12, .sc (.int .i64 (((List.map Act.av s1).length : Nat) : Int))), (13, .sc (.int .i64 ((t13 : Nat) : Int))), (19, Act.av x), (23, Act.av x1)]) (h' := []) (by kernel_rfl) rfl ?_
      refine DK.op' [0, 1, 12, 13, 24] (t' := [(0, .sl 53 (List.map Act.av s1) f_s1), (1, .sl 53 (List.map Act.av s2) f_s2), (12, .sc (.int .i64 (((List.map Act.av s1).length : Nat) : Int))), (13, .sc (.int .i64 ((t13 : Nat) : Int))), (24, .sc (.bool (!((x.Kind == x1.Kind) && ((x.Port == x1.Port) && ((x.Field == x1.Field) && (x.Value == x1.Value)))))))]) (h' := []) (LSpec.eq' 9 (r := (!((x.Kind == x1.Kind) && ((x.Port == x1.Port) && ((x.Field == x1.Field) && (x.Value == x1.Value)))))) (by kernel_rfl)) (by kernel_rfl) rfl (by kernel_rfl) rfl ?_
      refine DK.done (by kernel_rfl) (by kernel_rfl) ?_
      refine AR.cond (.tmp 24) (!((x.Kind == x1.Kind) && ((x.Port == x1.Port) && ((x.Field == x1.Field) && (x.Value == x1.Value))))) (by kernel_rfl) (by kernel_rfl) (fun hb => ?ht10) (fun hb => ?hf10)
      case ht10 =>
        replace H := cond_t hb H
        refine AR.seg hG hm 2 [4] (k' := [.code [1, 1, 0, 1, 0, 0, 1, 1, 0, 0, 1, 1, 0, 1], .blk 1, .code [1, 1, 0, 1, 0, 0, 1, 1, 1], .loop [1, 1, 0, 1, 0], .blk 0, .code [1, 1, 1]]) (t' := [(4, .sc (.bool false))]) (h' := []) (by kernel_rfl) ?_
        obtain rfl := Option.some.inj H
        obtain rfl := Jr _ rfl
        exact AR.ret0 (fn := Try.f41) hG Try.func41 (by kernel_rfl) hc0 (r0 := .sc (.bool false)) (by kernel_rfl) (WkV.refl _)
      case hf10 =>
        replace H := cond_f hb H
        refine AR.seg hG hm 3 [0, 1, 12, 13] (k' := [.loop [1, 1, 0, 1, 0], .blk 0, .code [1, 1, 1]]) (t' := [(0, .sl 53 (List.map Act.av s1) f_s1), (1, .sl 53 (List.map Act.av s2) f_s2), (12, .sc (.int .i64 (((List.map Act.av s1).length : Nat) : Int))), (13, .sc (.int .i64 (IntKind.i64.wrap (((t13 : Nat) : Int) + 1))))]) (h' := []) (by kernel_rfl) ?_
        refine AR.keep [0, 1, 12, 13] (t' := [(0, .sl 53 (List.map Act.av s1) f_s1), (1, .sl 53 (List.map Act.av s2) f_s2), (12, .sc (.int .i64 (((List.map Act.av s1).length : Nat) : Int))), (13, .sc (.int .i64 (IntKind.i64.wrap (((t13 : Nat) : Int) + 1))))]) (by kernel_rfl) ?_
        refine AR.loop_round ?_
        rw [hw]
        exact ih (t13 + 1) hd2 H
    case hf9 => exact absurd (hc.symm.trans hb) (by decide)

def slices_Equal__api_Act_raw (s1 : List Act) (s2 : List Act) : Option (Bool) :=
  (bif ((((List.map Act.av s1).length : Nat) : Int) != (((List.map Act.av s2).length : Nat) : Int)) then
    some false
  else
    loopO (slices_Equal__api_Act_l0s s2 s1 0) fun v =>
    some true)
theorem slices_Equal__api_Act_walk (s1 : List Act) (s2 : List Act) (f_s1 : Bool) (f_s2 : Bool) (r : Bool) (H : slices_Equal__api_Act_raw s1 s2 = some r) :
    ACalls Try.prog tab.S 41 [.sl 53 (List.map Act.av s1) f_s1, .sl 53 (List.map Act.av s2) f_s2] [] (.sc (.bool r)) [] := by
  have hG := tab_ok
  have hm := mixed
  refine ACalls.of_AR (G := tab) slices_Equal__api_Act_F (fn := Try.f41) Try.func41 (by kernel_rfl) (by kernel_rfl) (by kernel_rfl) (Nat.le_of_ble_eq_true (by kernel_rfl)) ?_
  intro c0 hc0
  replace hc0 : c0.m.length = 0 := hc0
  rw [slices_Equal__api_Act_raw] at H
  refine AR.seg hG hm 5 [0, 1, 10] (k' := [.code [1, 0, 1], .code [1, 1]]) (t' := [(0, .sl 53 (List.map Act.av s1) f_s1), (1, .sl 53 (List.map Act.av s2) f_s2), (10, .sc (.bool ((((List.map Act.av s1).length : Nat) : Int) != (((List.map Act.av s2).length : Nat) : Int))))]) (h' := []) (by kernel_rfl) ?_
  refine AR.cond (.tmp 10) ((((List.map Act.av s1).length : Nat) : Int) != (((List.map Act.av s2).length : Nat) : Int)) (by kernel_rfl) (by kernel_rfl) (fun hb => ?ht1) (fun hb => ?hf1)
  case ht1 =>
    replace H := cond_t hb H
    refine AR.seg hG hm 2 [4] (k' := [.code [1, 0, 1, 0, 1], .code [1, 1]]) (t' := [(4, .sc (.bool false))]) (h' := []) (by kernel_rfl) ?_
    obtain rfl := Option.some.inj H
    exact AR.ret0 (fn := Try.f41) hG Try.func41 (by kernel_rfl) hc0 (r0 := .sc (.bool false)) (by kernel_rfl) (WkV.refl _)
  case hf1 =>
    replace H := cond_f hb H
    refine AR.seg hG hm 5 [0, 1, 12, 13] (k' := [.code [1, 1, 0, 1, 0], .blk 0, .code [1, 1, 1]]) (t' := [(0, .sl 53 (List.map Act.av s1) f_s1), (1, .sl 53 (List.map Act.av s2) f_s2), (12, .sc (.int .i64 (((List.map Act.av s1).length : Nat) : Int))), (13, .sc (.int .i64 0))]) (h' := []) (by kernel_rfl) ?_
    rcases loopO_some H with ⟨v, hv, H⟩ | hv
    case inr =>
      refine AR.into (by kernel_rfl) ?_
      exact slices_Equal__api_Act_l0_walk s1 s2 f_s1 f_s2 _ c0 hc0 (.inr _) (fun _ e => by cases e) (fun _ e => (Sum.inr.inj e).symm) s1 0 rfl hv
    refine AR.into (by kernel_rfl) ?_
    refine slices_Equal__api_Act_l0_walk s1 s2 f_s1 f_s2 r c0 hc0 (.inl v) (fun w e => ?_) (fun _ e => by cases e) s1 0 rfl hv
    have e := Sum.inl.inj e
    subst e
    refine AR.seg hG hm 2 [4] (k' := [.code [1, 1, 1, 1]]) (t' := [(4, .sc (.bool true))]) (h' := []) (by kernel_rfl) ?_
    obtain rfl := Option.some.inj H
    exact AR.ret0 (fn := Try.f41) hG Try.func41 (by kernel_rfl) hc0 (r0 := .sc (.bool true)) (by kernel_rfl) (WkV.refl _)

theorem slices_Equal__api_Act_ok (a b : List Act) (f_a f_b : Bool) : ACalls Try.prog tab.S 41 [.sl 53 (List.map Act.av a) f_a, .sl 53 (List.map Act.av b) f_b] [] (.sc (.bool (a == b))) [] := by
  refine slices_Equal__api_Act_walk a b f_a f_b _ ?_
  rw [slices_Equal__api_Act_raw, len_bne]
  by_cases h : a.length = b.length
  · simp only [h, decide_true, Bool.not_true, cond_false]
    rw [cmp_loop (v := false) (slices_Equal__api_Act_l0s b) b (fun x y => x == y) (fun _ => rfl) (fun x r i => by rw [slices_Equal__api_Act_l0s]; simp only [Act.beq_eq]) a 0 (by omega), List.drop_zero, zipAll_beq]
    cases a == b <;> rfl
  · have e : (a == b) = false := by
      rw [beq_eq_false_iff_ne]
      intro e
      exact h (by rw [e])
    rw [e]
    simp only [h, decide_false, Bool.not_false, cond_true]

/-! ### act.Same: function 27 -/
noncomputable def act_Same_F : Go.Sh.Fn := ⟨27, bodyOf Try.f27, 8⟩
def act_Same_k0 : List Kd := [.pure, .pure, .pure, .pure]
def act_Same (a : List Act) (b : List Act) : Bool :=
  (a == b)
theorem act_Same_walk (a : List Act) (b : List Act) (f_a : Bool) (f_b : Bool) (r : Bool) (H : act_Same a b = r) :
    ACalls Try.prog tab.S 27 [.sl 53 (List.map Act.av a) f_a, .sl 53 (List.map Act.av b) f_b] [] (.sc (.bool r)) [] := by
  have hG := tab_ok
  have hm := mixed
  refine ACalls.of_AR (G := tab) act_Same_F (fn := Try.f27) Try.func27 (by kernel_rfl) (by kernel_rfl) (by kernel_rfl) (Nat.le_of_ble_eq_true (by kernel_rfl)) ?_
  intro c0 hc0
  replace hc0 : c0.m.length = 0 := hc0
  rw [act_Same] at H
  refine AR.seg hG hm 3 [0, 1] (k' := [.code [1, 0], .code [1, 1]]) (t' := [(0, .sl 53 (List.map Act.av a) f_a), (1, .sl 53 (List.map Act.av b) f_b)]) (h' := []) (by kernel_rfl) ?_
  refine AR.reg hm act_Same_k0 (by kernel_rfl) ?_
  refine DK.seg hG 2 [5, 6] (t' := [(5, .sl 53 (List.map Act.av a) f_a), (6, .sl 53 (List.map Act.av b) f_b)]) (h' := []) (by kernel_rfl) rfl ?_
  refine DK.op' [7] (t' := [(7, .sc (.bool (a == b)))]) (h' := []) (LSpec.callP' (slices_Equal__api_Act_ok a b f_a f_b) (by kernel_rfl)) (by kernel_rfl) rfl (by kernel_rfl) rfl ?_
  refine DK.seg hG 1 [4] (t' := [(4, .sc (.bool (a == b)))]) (h' := []) (by kernel_rfl) rfl ?_
  refine DK.done (by kernel_rfl) (by kernel_rfl) ?_
  subst H
  exact AR.ret0 (fn := Try.f27) hG Try.func27 (by kernel_rfl) hc0 (r0 := .sc (.bool (a == b))) (by kernel_rfl) (WkV.refl _)
theorem act_Same_calls (a : List Act) (b : List Act) (f_a : Bool) (f_b : Bool) : ACalls Try.prog tab.S 27 [.sl 53 (List.map Act.av a) f_a, .sl 53 (List.map Act.av b) f_b] [] (.sc (.bool (act_Same a b))) [] := act_Same_walk a b f_a f_b _ rfl

/-! ### podestaref04.SameActs: function 28 -/
noncomputable def podestaref04_SameActs_F : Go.Sh.Fn := ⟨28, bodyOf Try.f28, 26⟩
def podestaref04_SameActs_k0 : List Kd := [.pure, .pure, .pure, .pure, .pure, .pure, .pure, .pure, .pure]
def podestaref04_SameActs_l0s (b : List Act) : List Act → Nat → Option (Sum (Unit) (Bool))
  | [], i =>
    some (.inl ())
  | x :: rest, i =>
    (ixO b ((i : Nat) : Int)).bind fun x1 =>
    (bif (!((x.Kind == x1.Kind) && ((x.Port == x1.Port) && ((x.Field == x1.Field) && (x.Value == x1.Value))))) then
      some (.inr false)
    else
      podestaref04_SameActs_l0s b rest (i + 1) )
theorem podestaref04_SameActs_l0_walk (a : List Act) (b : List Act) (f_a : Bool) (f_b : Bool) (r : Bool) (c0 : Ctx) (hc0 : c0.m.length = 0) (res : Sum (Unit) (Bool)) (J : ∀ w : Unit, res = .inl w → AR Try.prog tab podestaref04_SameActs_F c0 (Rp tab.S c0 (.sc (.bool r)) []) [.code [1, 1, 1]] [] []) (Jr : ∀ w, res = .inr w → w = r) :
    ∀ (rest : List Act) (i : Nat) (hd : a.drop i = rest) (H : podestaref04_SameActs_l0s b rest i = some res), AR Try.prog tab podestaref04_SameActs_F c0 (Rp tab.S c0 (.sc (.bool r)) []) [.code [1, 1, 0, 1, 0, 0], .loop [1, 1, 0, 1, 0], .blk 0, .code [1, 1, 1]] [(0, .sl 53 (List.map Act.av a) f_a), (1, .sl 53 (List.map Act.av b) f_b), (5, .sc (.int .i64 ((i : Nat) : Int)))] [] := by
  have hG := tab_ok
  have hm := mixed
  intro rest
  induction rest with
  | nil =>
    intro i hd  H
    rw [podestaref04_SameActs_l0s] at H
    refine AR.facts 0 rfl fun hf => ?_
    have hlen : a.length ≤ 9223372036854775807 := by have hq := len_ok hf.2.1; rw [List.length_map] at hq; exact hq
    have hge : a.length ≤ i := List.drop_eq_nil_iff.1 hd
    have hc : (decide (((i : Nat) : Int) < (((List.map Act.av a).length : Nat) : Int))) = false := by rw [List.length_map]; exact decide_eq_false (by omega)
    refine AR.seg hG hm 3 [0, 1, 5, 14] (k' := [.code [1, 1, 0, 1, 0, 0, 0, 1], .code [1, 1, 0, 1, 0, 0, 1], .loop [1, 1, 0, 1, 0], .blk 0, .code [1, 1, 1]]) (t' := [(0, .sl 53 (List.map Act.av a) f_a), (1, .sl 53 (List.map Act.av b) f_b), (5, .sc (.int .i64 ((i : Nat) : Int))), (14, .sc (.bool (decide (((i : Nat) : Int) < (((List.map Act.av a).length : Nat) : Int)))))]) (h' := []) (by kernel_rfl) ?_
    refine AR.cond (.tmp 14) (decide (((i : Nat) : Int) < (((List.map Act.av a).length : Nat) : Int))) (by kernel_rfl) (by kernel_rfl) (fun hb => ?ht8) (fun hb => ?hf8)
    case ht8 => exact absurd (hb.symm.trans hc) (by decide)
    case hf8 =>
      refine AR.seg hG hm 1 [] (k' := [.code [1, 1, 1]]) (t' := []) (h' := []) (by kernel_rfl) ?_
      refine AR.keep [] (t' := []) (by kernel_rfl) ?_
      exact J () (Option.some.inj H).symm
  | cons x rest ih =>
    intro i hd  H
    rw [podestaref04_SameActs_l0s] at H
    refine AR.facts 0 rfl fun hf => ?_
    have hlen : a.length ≤ 9223372036854775807 := by have hq := len_ok hf.2.1; rw [List.length_map] at hq; exact hq
    obtain ⟨hlt, hv_i, hd2⟩ := drop_cons hd
    have hc : (decide (((i : Nat) : Int) < (((List.map Act.av a).length : Nat) : Int))) = true := by rw [List.length_map]; exact decide_eq_true (by omega)
    have hw : IntKind.i64.wrap (((i : Nat) : Int) + 1) = ((i + 1 : Nat) : Int) := wrapI_succ (by omega)
    refine AR.seg hG hm 3 [0, 1, 5, 14] (k' := [.code [1, 1, 0, 1, 0, 0, 0, 1], .code [1, 1, 0, 1, 0, 0, 1], .loop [1, 1, 0, 1, 0], .blk 0, .code [1, 1, 1]]) (t' := [(0, .sl 53 (List.map Act.av a) f_a), (1, .sl 53 (List.map Act.av b) f_b), (5, .sc (.int .i64 ((i : Nat) : Int))), (14, .sc (.bool (decide (((i : Nat) : Int) < (((List.map Act.av a).length : Nat) : Int)))))]) (h' := []) (by kernel_rfl) ?_
    refine AR.cond (.tmp 14) (decide (((i : Nat) : Int) < (((List.map Act.av a).length : Nat) : Int))) (by kernel_rfl) (by kernel_rfl) (fun hb => ?ht9) (fun hb => ?hf9)
    case ht9 =>
      refine AR.seg hG hm 4 [0, 1, 5] (k' := [.code [1, 1, 0, 1, 0, 0, 1, 0, 0, 0], .code [1, 1, 0, 1, 0, 0, 1, 0, 0, 1], .blk 1, .code [1, 1, 0, 1, 0, 0, 1, 1], .loop [1, 1, 0, 1, 0], .blk 0, .code [1, 1, 1]]) (t' := [(0, .sl 53 (List.map Act.av a) f_a), (1, .sl 53 (List.map Act.av b) f_b), (5, .sc (.int .i64 ((i : Nat) : Int)))]) (h' := []) (by kernel_rfl) ?_
      refine AR.reg hm podestaref04_SameActs_k0 (by kernel_rfl) ?_
      refine DK.seg hG 2 [0, 1, 5, 17, 18] (t' := [(0, .sl 53 (List.map Act.av a) f_a), (1, .sl 53 (List.map Act.av b) f_b), (5, .sc (.int .i64 ((i : Nat) : Int))), (17, .sl 53 (List.map Act.av a) f_a), (18, .sc (.int .i64 ((i : Nat) : Int)))]) (h' := []) (by kernel_rfl) rfl ?_
      refine DK.op' [0, 1, 5, 19] (t' := [(0, .sl 53 (List.map Act.av a) f_a), (1, .sl 53 (List.map Act.av b) f_b), (5, .sc (.int .i64 ((i : Nat) : Int))), (19, .ep [.sc (.int .i64 x.Kind), .sc (.int .i64 x.Port), .sc (.int .i64 x.Field), .sc (.int .u64 x.Value)] 0 none)]) (h' := []) (LSpec.index' (r := Act.av x) (fs := [.sc (.int .i64 x.Kind), .sc (.int .i64 x.Port), .sc (.int .i64 x.Field), .sc (.int .u64 x.Value)]) hG (rows := List.map Act.av a) (j := ((i : Nat) : Int)) (by kernel_rfl) (ixO_map hv_i _) (by kernel_rfl)) (by kernel_rfl) rfl (by kernel_rfl) rfl ?_
      refine DK.seg hG 3 [0, 1, 5, 20, 21, 22] (t' := [(0, .sl 53 (List.map Act.av a) f_a), (1, .sl 53 (List.map Act.av b) f_b), (5, .sc (.int .i64 ((i : Nat) : Int))), (20, Act.av x), (21, .sl 53 (List.map Act.av b) f_b), (22, .sc (.int .i64 ((i : Nat) : Int)))]) (h' := []) (by kernel_rfl) rfl ?_
      obtain ⟨x1, hv, H⟩ := Option.bind_eq_some_iff.1 H
      refine DK.op' [0, 1, 5, 20, 23] (t' := [(0, .sl 53 (List.map Act.av a) f_a), (1, .sl 53 (List.map Act.av b) f_b), (5, .sc (.int .i64 ((i : Nat) : Int))), (20, Act.av x), (23, .ep [.sc (.int .i64 x1.Kind), .sc (.int .i64 x1.Port), .sc (.int .i64 x1.Field), .sc (.int .u64 x1.Value)] 0 none)]) (h' := []) (LSpec.index' (r := Act.av x1) (fs := [.sc (.int .i64 x1.Kind), .sc (.int .i64 x1.Port), .sc (.int .i64 x1.Field), .sc (.int .u64 x1.Value)]) hG (rows := List.map Act.av b) (j := ((i : Nat) : Int)) (by kernel_rfl) (ixO_map hv _) (by kernel_rfl)) (by kernel_rfl) rfl (by kernel_rfl) rfl ?_
      refine DK.seg hG 1 [0, 1, 5, 20, 24] (t' := [(0, .sl 53 (List.map Act.av a) f_a), (1, .sl 53 (List.map Act.av b) f_b), (5, .sc (.int .i64 ((i : Nat) : Int))), (20, Act.av x), (24, Act.av x1)]) (h' := []) (by kernel_rfl) rfl ?_
      refine DK.op' [0, 1, 5, 25] (t' := [(0, .sl 53 (List.map Act.av a) f_a), (1, .sl 53 (List.map Act.av b) f_b), (5, .sc (.int .i64 ((i : Nat) : Int))), (25, .sc (.bool (!((x.Kind == x1.Kind) && ((x.Port == x1.Port) && ((x.Field == x1.Field) && (x.Value == x1.Value)))))))]) (h' := []) (LSpec.eq' 9 (r := (!((x.Kind == x1.Kind) && ((x.Port == x1.Port) && ((x.Field == x1.Field) && (x.Value == x1.Value)))))) (by kernel_rfl)) (by kernel_rfl) rfl (by kernel_rfl) rfl ?_
      refine DK.done (by kernel_rfl) (by kernel_rfl) ?_
      refine AR.cond (.tmp 25) (!((x.Kind == x1.Kind) && ((x.Port == x1.Port) && ((x.Field == x1.Field) && (x.Value == x1.Value))))) (by kernel_rfl) (by kernel_rfl) (fun hb => ?ht10) (fun hb => ?hf10)
      case ht10 =>
        replace H := cond_t hb H
        refine AR.seg hG hm 2 [4] (k' := [.code [1, 1, 0, 1, 0, 0, 1, 0, 0, 1, 0, 1], .blk 1, .code [1, 1, 0, 1, 0, 0, 1, 1], .loop [1, 1, 0, 1, 0], .blk 0, .code [1, 1, 1]]) (t' := [(4, .sc (.bool false))]) (h' := []) (by kernel_rfl) ?_
        obtain rfl := Option.some.inj H
        obtain rfl := Jr _ rfl
        exact AR.ret0 (fn := Try.f28) hG Try.func28 (by kernel_rfl) hc0 (r0 := .sc (.bool false)) (by kernel_rfl) (WkV.refl _)
      case hf10 =>
        replace H := cond_f hb H
        refine AR.seg hG hm 3 [0, 1, 5] (k' := [.loop [1, 1, 0, 1, 0], .blk 0, .code [1, 1, 1]]) (t' := [(0, .sl 53 (List.map Act.av a) f_a), (1, .sl 53 (List.map Act.av b) f_b), (5, .sc (.int .i64 (IntKind.i64.wrap (((i : Nat) : Int) + 1))))]) (h' := []) (by kernel_rfl) ?_
        refine AR.keep [0, 1, 5] (t' := [(0, .sl 53 (List.map Act.av a) f_a), (1, .sl 53 (List.map Act.av b) f_b), (5, .sc (.int .i64 (IntKind.i64.wrap (((i : Nat) : Int) + 1))))]) (by kernel_rfl) ?_
        refine AR.loop_round ?_
        rw [hw]
        exact ih (i + 1) hd2 H
    case hf9 => exact absurd (hc.symm.trans hb) (by decide)

def podestaref04_SameActs_raw (a : List Act) (b : List Act) : Option (Bool) :=
  (bif ((((List.map Act.av a).length : Nat) : Int) != (((List.map Act.av b).length : Nat) : Int)) then
    some false
  else
    loopO (podestaref04_SameActs_l0s b a 0) fun v =>
    some true)
theorem podestaref04_SameActs_walk (a : List Act) (b : List Act) (f_a : Bool) (f_b : Bool) (r : Bool) (H : podestaref04_SameActs_raw a b = some r) :
    ACalls Try.prog tab.S 28 [.sl 53 (List.map Act.av a) f_a, .sl 53 (List.map Act.av b) f_b] [] (.sc (.bool r)) [] := by
  have hG := tab_ok
  have hm := mixed
  refine ACalls.of_AR (G := tab) podestaref04_SameActs_F (fn := Try.f28) Try.func28 (by kernel_rfl) (by kernel_rfl) (by kernel_rfl) (Nat.le_of_ble_eq_true (by kernel_rfl)) ?_
  intro c0 hc0
  replace hc0 : c0.m.length = 0 := hc0
  rw [podestaref04_SameActs_raw] at H
  refine AR.seg hG hm 5 [0, 1, 10] (k' := [.code [1, 0, 1], .code [1, 1]]) (t' := [(0, .sl 53 (List.map Act.av a) f_a), (1, .sl 53 (List.map Act.av b) f_b), (10, .sc (.bool ((((List.map Act.av a).length : Nat) : Int) != (((List.map Act.av b).length : Nat) : Int))))]) (h' := []) (by kernel_rfl) ?_
  refine AR.cond (.tmp 10) ((((List.map Act.av a).length : Nat) : Int) != (((List.map Act.av b).length : Nat) : Int)) (by kernel_rfl) (by kernel_rfl) (fun hb => ?ht1) (fun hb => ?hf1)
  case ht1 =>
    replace H := cond_t hb H
    refine AR.seg hG hm 2 [4] (k' := [.code [1, 0, 1, 0, 1], .code [1, 1]]) (t' := [(4, .sc (.bool false))]) (h' := []) (by kernel_rfl) ?_
    obtain rfl := Option.some.inj H
    exact AR.ret0 (fn := Try.f28) hG Try.func28 (by kernel_rfl) hc0 (r0 := .sc (.bool false)) (by kernel_rfl) (WkV.refl _)
  case hf1 =>
    replace H := cond_f hb H
    refine AR.seg hG hm 5 [0, 1, 5] (k' := [.code [1, 1, 0, 1, 0], .blk 0, .code [1, 1, 1]]) (t' := [(0, .sl 53 (List.map Act.av a) f_a), (1, .sl 53 (List.map Act.av b) f_b), (5, .sc (.int .i64 0))]) (h' := []) (by kernel_rfl) ?_
    rcases loopO_some H with ⟨v, hv, H⟩ | hv
    case inr =>
      refine AR.into (by kernel_rfl) ?_
      exact podestaref04_SameActs_l0_walk a b f_a f_b _ c0 hc0 (.inr _) (fun _ e => by cases e) (fun _ e => (Sum.inr.inj e).symm) a 0 rfl hv
    refine AR.into (by kernel_rfl) ?_
    refine podestaref04_SameActs_l0_walk a b f_a f_b r c0 hc0 (.inl v) (fun w e => ?_) (fun _ e => by cases e) a 0 rfl hv
    have e := Sum.inl.inj e
    subst e
    refine AR.seg hG hm 2 [4] (k' := [.code [1, 1, 1, 1]]) (t' := [(4, .sc (.bool true))]) (h' := []) (by kernel_rfl) ?_
    obtain rfl := Option.some.inj H
    exact AR.ret0 (fn := Try.f28) hG Try.func28 (by kernel_rfl) hc0 (r0 := .sc (.bool true)) (by kernel_rfl) (WkV.refl _)

theorem podestaref04_SameActs_ok (a b : List Act) (f_a f_b : Bool) : ACalls Try.prog tab.S 28 [.sl 53 (List.map Act.av a) f_a, .sl 53 (List.map Act.av b) f_b] [] (.sc (.bool (a == b))) [] := by
  refine podestaref04_SameActs_walk a b f_a f_b _ ?_
  rw [podestaref04_SameActs_raw, len_bne]
  by_cases h : a.length = b.length
  · simp only [h, decide_true, Bool.not_true, cond_false]
    rw [cmp_loop (v := false) (podestaref04_SameActs_l0s b) b (fun x y => x == y) (fun _ => rfl) (fun x r i => by rw [podestaref04_SameActs_l0s]; simp only [Act.beq_eq]) a 0 (by omega), List.drop_zero, zipAll_beq]
    cases a == b <;> rfl
  · have e : (a == b) = false := by
      rw [beq_eq_false_iff_ne]
      intro e
      exact h (by rw [e])
    rw [e]
    simp only [h, decide_false, Bool.not_false, cond_true]

/-! ### podestalaw04.ActSame: function 10 -/
noncomputable def podestalaw04_ActSame_F : Go.Sh.Fn := ⟨10, bodyOf Try.f10, 86⟩
def podestalaw04_ActSame_k1 : List Kd := [.pure, .pure]
def podestalaw04_ActSame_k6 : List Kd := [.pure, .pure, .pure, .pure, .pure, .pure, .pure, .pure, .pure, .pure]
def podestalaw04_ActSame_k5 : List Kd := [.pure, .pure, .pure, .pure, .pure, .pure, .pure]
def podestalaw04_ActSame_k7 : List Kd := [.pure, .pure, .pure, .pure, .pure, .pure, .pure, .pure, .pure, .pure, .pure, .pure, .pure, .pure, .pure, .pure, .pure, .pure, .pure, .pure, .pure, .pure, .pure, .pure, .pure]
def podestalaw04_ActSame_k4 : List Kd := [.pure, .pure, .pure, .pure, .pure, .pure, .pure, .pure, .pure, .pure, .pure]
def podestalaw04_ActSame_k3 : List Kd := [.pure, .read, .pure, .pure, .pure, .pure, .pure, .pure]
def podestalaw04_ActSame_k2 : List Kd := [.pure, .read, .pure, .pure, .pure, .pure, .pure, .pure]
def podestalaw04_ActSame_k0 : List Kd := [.pure, .pure, .pure, .pure, .pure, .pure, .pure, .pure]
def podestalaw04_ActSame_l0 (a : List Act) (b : List Act) (h1 : List Int) : Nat → Bool → Int → Option (Bool)
  | 0, _, _ => none
  | m + 1, same, i =>
    (bif ((decide (i < (((List.map Send.av ((runA a h1).1)).length : Nat) : Int))) && same) then
    (ixO ((runA a h1).1) i).bind fun x =>
    (ixO ((runA b h1).1) i).bind fun x1 =>
    podestalaw04_ActSame_l0 a b h1 m ((x.Port == x1.Port) && (x.Head == x1.Head)) (IntKind.i64.wrap (i + 1))
  else
    some same)
theorem podestalaw04_ActSame_l0_walk (q0 : Nat) (a : List Act) (b : List Act) (h1 : List Int) (f_a : Bool) (f_b : Bool) (r : Bool) (c0 : Ctx) (hc0 : c0.m.length = 0) (res : Bool) (J : AR Try.prog tab podestalaw04_ActSame_F c0 (Rp tab.S c0 (.sc (.bool r)) []) [.code [1, 1, 1, 1, 1, 1]] [(0, .sl 53 (List.map Act.av a) f_a), (1, .sl 53 (List.map Act.av b) f_b), (11, .sc (.bool res))] [.box 43 [.arr .u64 12 h1]]) :
    ∀ (m : Nat) (same : Bool) (i : Int) (H : podestalaw04_ActSame_l0 a b h1 m same i = some res), AR Try.prog tab podestalaw04_ActSame_F c0 (Rp tab.S c0 (.sc (.bool r)) []) [.code [1, 1, 1, 1, 1, 0, 1, 0, 0], .loop [1, 1, 1, 1, 1, 0, 1, 0], .blk 0, .code [1, 1, 1, 1, 1, 1]] [(0, .sl 53 (List.map Act.av a) f_a), (1, .sl 53 (List.map Act.av b) f_b), (7, .sl 59 (List.map Send.av ((runA a h1).1)) false), (9, .sl 59 (List.map Send.av ((runA b h1).1)) false), (11, .sc (.bool same)), (12, .sc (.int .i64 i))] [.box 43 [.arr .u64 12 h1]] := by
  have hG := tab_ok
  have hm := mixed
  intro m
  induction m with
  | zero => intro same i H; cases H
  | succ m ih =>
    intro same i H
    rw [podestalaw04_ActSame_l0] at H
    refine AR.seg hG hm 2 [0, 1, 7, 9, 11, 12] (k' := [.code [1, 1, 1, 1, 1, 0, 1, 0, 0, 0, 0], .code [1, 1, 1, 1, 1, 0, 1, 0, 0, 0, 1], .code [1, 1, 1, 1, 1, 0, 1, 0, 0, 1], .loop [1, 1, 1, 1, 1, 0, 1, 0], .blk 0, .code [1, 1, 1, 1, 1, 1]]) (t' := [(0, .sl 53 (List.map Act.av a) f_a), (1, .sl 53 (List.map Act.av b) f_b), (7, .sl 59 (List.map Send.av ((runA a h1).1)) false), (9, .sl 59 (List.map Send.av ((runA b h1).1)) false), (11, .sc (.bool same)), (12, .sc (.int .i64 i))]) (h' := [.box 43 [.arr .u64 12 h1]]) (by kernel_rfl) ?_
    refine AR.reg hm podestalaw04_ActSame_k5 (by kernel_rfl) ?_
    refine DK.seg hG 5 [0, 1, 7, 9, 11, 12, 48] (t' := [(0, .sl 53 (List.map Act.av a) f_a), (1, .sl 53 (List.map Act.av b) f_b), (7, .sl 59 (List.map Send.av ((runA a h1).1)) false), (9, .sl 59 (List.map Send.av ((runA b h1).1)) false), (11, .sc (.bool same)), (12, .sc (.int .i64 i)), (48, .sc (.bool (decide (i < (((List.map Send.av ((runA a h1).1)).length : Nat) : Int)))))]) (h' := [.box 43 [.arr .u64 12 h1]]) (by kernel_rfl) rfl ?_
    refine DK.mux 48 (decide (i < (((List.map Send.av ((runA a h1).1)).length : Nat) : Int))) (j := 7) (h' := [.box 43 [.arr .u64 12 h1]]) (by kernel_rfl) (fun z => [(0, .sl 53 (List.map Act.av a) f_a), (1, .sl 53 (List.map Act.av b) f_b), (7, .sl 59 (List.map Send.av ((runA a h1).1)) false), (9, .sl 59 (List.map Send.av ((runA b h1).1)) false), (11, .sc (.bool same)), (12, .sc (.int .i64 i)), (50, .sc (.bool (z && same)))]) ?J8 (fun hb J => ?ht8) (fun hb J => ?hf8)
    case ht8 =>
      exact DK.seg hG 2 [0, 1, 7, 9, 11, 12, 50] (by kernel_rfl) rfl J
    case hf8 =>
      exact DK.seg hG 2 [0, 1, 7, 9, 11, 12, 50] (by kernel_rfl) rfl J
    refine DK.done (by kernel_rfl) (by kernel_rfl) ?_
    refine AR.cond (.tmp 50) ((decide (i < (((List.map Send.av ((runA a h1).1)).length : Nat) : Int))) && same) (by kernel_rfl) (by kernel_rfl) (fun hb => ?ht9) (fun hb => ?hf9)
    case ht9 =>
      replace H := cond_t hb H
      refine AR.seg hG hm 3 [0, 1, 7, 9, 12] (k' := [.code [1, 1, 1, 1, 1, 0, 1, 0, 0, 1, 0, 0], .blk 1, .code [1, 1, 1, 1, 1, 0, 1, 0, 0, 1, 1], .loop [1, 1, 1, 1, 1, 0, 1, 0], .blk 0, .code [1, 1, 1, 1, 1, 1]]) (t' := [(0, .sl 53 (List.map Act.av a) f_a), (1, .sl 53 (List.map Act.av b) f_b), (7, .sl 59 (List.map Send.av ((runA a h1).1)) false), (9, .sl 59 (List.map Send.av ((runA b h1).1)) false), (12, .sc (.int .i64 i))]) (h' := [.box 43 [.arr .u64 12 h1]]) (by kernel_rfl) ?_
      refine AR.reg hm podestalaw04_ActSame_k6 (by kernel_rfl) ?_
      refine DK.seg hG 2 [0, 1, 7, 9, 12, 53, 54] (t' := [(0, .sl 53 (List.map Act.av a) f_a), (1, .sl 53 (List.map Act.av b) f_b), (7, .sl 59 (List.map Send.av ((runA a h1).1)) false), (9, .sl 59 (List.map Send.av ((runA b h1).1)) false), (12, .sc (.int .i64 i)), (53, .sl 59 (List.map Send.av ((runA a h1).1)) false), (54, .sc (.int .i64 i))]) (h' := [.box 43 [.arr .u64 12 h1]]) (by kernel_rfl) rfl ?_
      obtain ⟨x, hv, H⟩ := Option.bind_eq_some_iff.1 H
      refine DK.op' [0, 1, 7, 9, 12, 55] (t' := [(0, .sl 53 (List.map Act.av a) f_a), (1, .sl 53 (List.map Act.av b) f_b), (7, .sl 59 (List.map Send.av ((runA a h1).1)) false), (9, .sl 59 (List.map Send.av ((runA b h1).1)) false), (12, .sc (.int .i64 i)), (55, .ep [.sc (.int .i64 x.Port), .arr .u64 12 x.Head] 0 none)]) (h' := [.box 43 [.arr .u64 12 h1]]) (LSpec.index' (r := Send.av x) (fs := [.sc (.int .i64 x.Port), .arr .u64 12 x.Head]) hG (rows := List.map Send.av ((runA a h1).1)) (j := i) (by kernel_rfl) (ixO_map hv _) (by kernel_rfl)) (by kernel_rfl) rfl (by kernel_rfl) rfl ?_
      refine DK.seg hG 3 [0, 1, 7, 9, 12, 56, 57, 58] (t' := [(0, .sl 53 (List.map Act.av a) f_a), (1, .sl 53 (List.map Act.av b) f_b), (7, .sl 59 (List.map Send.av ((runA a h1).1)) false), (9, .sl 59 (List.map Send.av ((runA b h1).1)) false), (12, .sc (.int .i64 i)), (56, Send.av x), (57, .sl 59 (List.map Send.av ((runA b h1).1)) false), (58, .sc (.int .i64 i))]) (h' := [.box 43 [.arr .u64 12 h1]]) (by kernel_rfl) rfl ?_
      obtain ⟨x1, hv, H⟩ := Option.bind_eq_some_iff.1 H
      refine DK.op' [0, 1, 7, 9, 12, 56, 59] (t' := [(0, .sl 53 (List.map Act.av a) f_a), (1, .sl 53 (List.map Act.av b) f_b), (7, .sl 59 (List.map Send.av ((runA a h1).1)) false), (9, .sl 59 (List.map Send.av ((runA b h1).1)) false), (12, .sc (.int .i64 i)), (56, Send.av x), (59, .ep [.sc (.int .i64 x1.Port), .arr .u64 12 x1.Head] 0 none)]) (h' := [.box 43 [.arr .u64 12 h1]]) (LSpec.index' (r := Send.av x1) (fs := [.sc (.int .i64 x1.Port), .arr .u64 12 x1.Head]) hG (rows := List.map Send.av ((runA b h1).1)) (j := i) (by kernel_rfl) (ixO_map hv _) (by kernel_rfl)) (by kernel_rfl) rfl (by kernel_rfl) rfl ?_
      refine DK.seg hG 1 [0, 1, 7, 9, 12, 56, 60] (t' := [(0, .sl 53 (List.map Act.av a) f_a), (1, .sl 53 (List.map Act.av b) f_b), (7, .sl 59 (List.map Send.av ((runA a h1).1)) false), (9, .sl 59 (List.map Send.av ((runA b h1).1)) false), (12, .sc (.int .i64 i)), (56, Send.av x), (60, Send.av x1)]) (h' := [.box 43 [.arr .u64 12 h1]]) (by kernel_rfl) rfl ?_
      refine DK.op' [0, 1, 7, 9, 12, 61] (t' := [(0, .sl 53 (List.map Act.av a) f_a), (1, .sl 53 (List.map Act.av b) f_b), (7, .sl 59 (List.map Send.av ((runA a h1).1)) false), (9, .sl 59 (List.map Send.av ((runA b h1).1)) false), (12, .sc (.int .i64 i)), (61, .sc (.bool ((x.Port == x1.Port) && (x.Head == x1.Head))))]) (h' := [.box 43 [.arr .u64 12 h1]]) (LSpec.eq' 9 (r := ((x.Port == x1.Port) && (x.Head == x1.Head))) (by kernel_rfl)) (by kernel_rfl) rfl (by kernel_rfl) rfl ?_
      refine DK.seg hG 1 [0, 1, 7, 9, 11, 12] (t' := [(0, .sl 53 (List.map Act.av a) f_a), (1, .sl 53 (List.map Act.av b) f_b), (7, .sl 59 (List.map Send.av ((runA a h1).1)) false), (9, .sl 59 (List.map Send.av ((runA b h1).1)) false), (11, .sc (.bool ((x.Port == x1.Port) && (x.Head == x1.Head)))), (12, .sc (.int .i64 i))]) (h' := [.box 43 [.arr .u64 12 h1]]) (by kernel_rfl) rfl ?_
      refine DK.done (by kernel_rfl) (by kernel_rfl) ?_
      refine AR.seg hG hm 2 [0, 1, 7, 9, 11, 12] (k' := [.loop [1, 1, 1, 1, 1, 0, 1, 0], .blk 0, .code [1, 1, 1, 1, 1, 1]]) (t' := [(0, .sl 53 (List.map Act.av a) f_a), (1, .sl 53 (List.map Act.av b) f_b), (7, .sl 59 (List.map Send.av ((runA a h1).1)) false), (9, .sl 59 (List.map Send.av ((runA b h1).1)) false), (11, .sc (.bool ((x.Port == x1.Port) && (x.Head == x1.Head)))), (12, .sc (.int .i64 (IntKind.i64.wrap (i + 1))))]) (h' := [.box 43 [.arr .u64 12 h1]]) (by kernel_rfl) ?_
      refine AR.keep [0, 1, 7, 9, 11, 12] (t' := [(0, .sl 53 (List.map Act.av a) f_a), (1, .sl 53 (List.map Act.av b) f_b), (7, .sl 59 (List.map Send.av ((runA a h1).1)) false), (9, .sl 59 (List.map Send.av ((runA b h1).1)) false), (11, .sc (.bool ((x.Port == x1.Port) && (x.Head == x1.Head)))), (12, .sc (.int .i64 (IntKind.i64.wrap (i + 1))))]) (by kernel_rfl) ?_
      refine AR.loop_round ?_
      exact ih ((x.Port == x1.Port) && (x.Head == x1.Head)) (IntKind.i64.wrap (i + 1)) H
    case hf9 =>
      replace H := cond_f hb H
      refine AR.seg hG hm 1 [0, 1, 11] (k' := [.code [1, 1, 1, 1, 1, 1]]) (t' := [(0, .sl 53 (List.map Act.av a) f_a), (1, .sl 53 (List.map Act.av b) f_b), (11, .sc (.bool same))]) (h' := [.box 43 [.arr .u64 12 h1]]) (by kernel_rfl) ?_
      refine AR.keep [0, 1, 11] (t' := [(0, .sl 53 (List.map Act.av a) f_a), (1, .sl 53 (List.map Act.av b) f_b), (11, .sc (.bool same))]) (by kernel_rfl) ?_
      obtain rfl := Option.some.inj H
      exact J
def podestalaw04_ActSame_raw (q0 : Nat) (a : List Act) (b : List Act) (h1 : List Int) : Option (Bool) :=
  (bif ((decide ((((List.map Act.av a).length : Nat) : Int) > 20)) || (decide ((((List.map Act.av b).length : Nat) : Int) > 20))) then
    some true
  else
    (podestalaw04_ActSame_l0 a b h1 q0 (((((List.map Send.av ((runA a h1).1)).length : Nat) : Int) == (((List.map Send.av ((runA b h1).1)).length : Nat) : Int)) && ((runA a h1).2 == (runA b h1).2)) 0).bind fun v =>
    some ((((act_Same a b) == (a == b)) && (act_Same a a)) && ((!(act_Same a b)) || v)))
theorem podestalaw04_ActSame_walk (q0 : Nat) (a : List Act) (b : List Act) (h1 : List Int) (f_a : Bool) (f_b : Bool) (r : Bool) (H : podestalaw04_ActSame_raw q0 a b h1 = some r) :
    ACalls Try.prog tab.S 10 [.sl 53 (List.map Act.av a) f_a, .sl 53 (List.map Act.av b) f_b, .arr .u64 12 h1] [] (.sc (.bool r)) [] := by
  have hG := tab_ok
  have hm := mixed
  refine ACalls.of_AR (G := tab) podestalaw04_ActSame_F (fn := Try.f10) Try.func10 (by kernel_rfl) (by kernel_rfl) (by kernel_rfl) (Nat.le_of_ble_eq_true (by kernel_rfl)) ?_
  intro c0 hc0
  replace hc0 : c0.m.length = 0 := hc0
  rw [podestalaw04_ActSame_raw] at H
  refine AR.seg hG hm 4 [0, 1, 5] (k' := [.code [1, 0, 0], .code [1, 0, 1], .code [1, 1]]) (t' := [(0, .sl 53 (List.map Act.av a) f_a), (1, .sl 53 (List.map Act.av b) f_b), (5, .ptr 0 0 none)]) (h' := [.box 43 [.arr .u64 12 h1]]) (by kernel_rfl) ?_
  refine AR.reg hm podestalaw04_ActSame_k0 (by kernel_rfl) ?_
  refine DK.seg hG 4 [0, 1, 5, 16] (t' := [(0, .sl 53 (List.map Act.av a) f_a), (1, .sl 53 (List.map Act.av b) f_b), (5, .ptr 0 0 none), (16, .sc (.bool (decide ((((List.map Act.av a).length : Nat) : Int) > 20))))]) (h' := [.box 43 [.arr .u64 12 h1]]) (by kernel_rfl) rfl ?_
  refine DK.mux 16 (decide ((((List.map Act.av a).length : Nat) : Int) > 20)) (j := 8) (h' := [.box 43 [.arr .u64 12 h1]]) (by kernel_rfl) (fun z => [(0, .sl 53 (List.map Act.av a) f_a), (1, .sl 53 (List.map Act.av b) f_b), (5, .ptr 0 0 none), (20, .sc (.bool (z || (decide ((((List.map Act.av b).length : Nat) : Int) > 20)))))]) ?J1 (fun hb J => ?ht1) (fun hb J => ?hf1)
  case ht1 =>
    exact DK.seg hG 4 [0, 1, 5, 20] (by kernel_rfl) rfl J
  case hf1 =>
    exact DK.seg hG 4 [0, 1, 5, 20] (by kernel_rfl) rfl J
  refine DK.done (by kernel_rfl) (by kernel_rfl) ?_
  refine AR.cond (.tmp 20) ((decide ((((List.map Act.av a).length : Nat) : Int) > 20)) || (decide ((((List.map Act.av b).length : Nat) : Int) > 20))) (by kernel_rfl) (by kernel_rfl) (fun hb => ?ht2) (fun hb => ?hf2)
  case ht2 =>
    replace H := cond_t hb H
    refine AR.seg hG hm 1 [] (k' := [.code [1, 0, 1, 0, 0], .code [1, 0, 1, 0, 1], .code [1, 1]]) (t' := []) (h' := [.box 43 [.arr .u64 12 h1]]) (by kernel_rfl) ?_
    refine AR.reg hm podestalaw04_ActSame_k1 (by kernel_rfl) ?_
    refine DK.op' [21] (t' := [(21, .sc (.bool true))]) (h' := [.box 43 [.arr .u64 12 h1]]) (LSpec.callP' (podestalaw04_answers_ok) (by kernel_rfl)) (by kernel_rfl) rfl (by kernel_rfl) rfl ?_
    refine DK.seg hG 1 [6] (t' := [(6, .sc (.bool true))]) (h' := [.box 43 [.arr .u64 12 h1]]) (by kernel_rfl) rfl ?_
    refine DK.done (by kernel_rfl) (by kernel_rfl) ?_
    obtain rfl := Option.some.inj H
    exact AR.ret0 (fn := Try.f10) hG Try.func10 (by kernel_rfl) hc0 (r0 := .sc (.bool true)) (by kernel_rfl) (WkV.refl _)
  case hf2 =>
    replace H := cond_f hb H
    refine AR.seg hG hm 2 [0, 1, 5] (k' := [.code [1, 1, 0], .code [1, 1, 1]]) (t' := [(0, .sl 53 (List.map Act.av a) f_a), (1, .sl 53 (List.map Act.av b) f_b), (5, .ptr 0 0 none)]) (h' := [.box 43 [.arr .u64 12 h1]]) (by kernel_rfl) ?_
    refine AR.reg hm podestalaw04_ActSame_k2 (by kernel_rfl) ?_
    refine DK.seg hG 2 [0, 1, 5, 23, 24] (t' := [(0, .sl 53 (List.map Act.av a) f_a), (1, .sl 53 (List.map Act.av b) f_b), (5, .ptr 0 0 none), (23, .sl 53 (List.map Act.av a) f_a), (24, .arr .u64 12 h1)]) (h' := [.box 43 [.arr .u64 12 h1]]) (by kernel_rfl) rfl ?_
    refine DK.op' [0, 1, 5, 25] (t' := [(0, .sl 53 (List.map Act.av a) f_a), (1, .sl 53 (List.map Act.av b) f_b), (5, .ptr 0 0 none), (25, .tup [.sl 59 (List.map Send.av ((runA a h1).1)) false, .sc (.bool ((runA a h1).2))])]) (h' := [.box 43 [.arr .u64 12 h1]]) (LSpec.callP' (act_Run_ok a h1 f_a) (by kernel_rfl)) (by kernel_rfl) rfl (by kernel_rfl) rfl ?_
    refine DK.seg hG 5 [0, 1, 5, 7, 8] (t' := [(0, .sl 53 (List.map Act.av a) f_a), (1, .sl 53 (List.map Act.av b) f_b), (5, .ptr 0 0 none), (7, .sl 59 (List.map Send.av ((runA a h1).1)) false), (8, .sc (.bool ((runA a h1).2)))]) (h' := [.box 43 [.arr .u64 12 h1]]) (by kernel_rfl) rfl ?_
    refine DK.done (by kernel_rfl) (by kernel_rfl) ?_
    refine AR.seg hG hm 1 [0, 1, 5, 7, 8] (k' := [.code [1, 1, 1, 0], .code [1, 1, 1, 1]]) (t' := [(0, .sl 53 (List.map Act.av a) f_a), (1, .sl 53 (List.map Act.av b) f_b), (5, .ptr 0 0 none), (7, .sl 59 (List.map Send.av ((runA a h1).1)) false), (8, .sc (.bool ((runA a h1).2)))]) (h' := [.box 43 [.arr .u64 12 h1]]) (by kernel_rfl) ?_
    refine AR.reg hm podestalaw04_ActSame_k3 (by kernel_rfl) ?_
    refine DK.seg hG 2 [0, 1, 7, 8, 29, 30] (t' := [(0, .sl 53 (List.map Act.av a) f_a), (1, .sl 53 (List.map Act.av b) f_b), (7, .sl 59 (List.map Send.av ((runA a h1).1)) false), (8, .sc (.bool ((runA a h1).2))), (29, .sl 53 (List.map Act.av b) f_b), (30, .arr .u64 12 h1)]) (h' := [.box 43 [.arr .u64 12 h1]]) (by kernel_rfl) rfl ?_
    refine DK.op' [0, 1, 7, 8, 31] (t' := [(0, .sl 53 (List.map Act.av a) f_a), (1, .sl 53 (List.map Act.av b) f_b), (7, .sl 59 (List.map Send.av ((runA a h1).1)) false), (8, .sc (.bool ((runA a h1).2))), (31, .tup [.sl 59 (List.map Send.av ((runA b h1).1)) false, .sc (.bool ((runA b h1).2))])]) (h' := [.box 43 [.arr .u64 12 h1]]) (LSpec.callP' (act_Run_ok b h1 f_b) (by kernel_rfl)) (by kernel_rfl) rfl (by kernel_rfl) rfl ?_
    refine DK.seg hG 5 [0, 1, 7, 8, 9, 10] (t' := [(0, .sl 53 (List.map Act.av a) f_a), (1, .sl 53 (List.map Act.av b) f_b), (7, .sl 59 (List.map Send.av ((runA a h1).1)) false), (8, .sc (.bool ((runA a h1).2))), (9, .sl 59 (List.map Send.av ((runA b h1).1)) false), (10, .sc (.bool ((runA b h1).2)))]) (h' := [.box 43 [.arr .u64 12 h1]]) (by kernel_rfl) rfl ?_
    refine DK.done (by kernel_rfl) (by kernel_rfl) ?_
    refine AR.seg hG hm 1 [0, 1, 7, 8, 9, 10] (k' := [.code [1, 1, 1, 1, 0], .code [1, 1, 1, 1, 1]]) (t' := [(0, .sl 53 (List.map Act.av a) f_a), (1, .sl 53 (List.map Act.av b) f_b), (7, .sl 59 (List.map Send.av ((runA a h1).1)) false), (8, .sc (.bool ((runA a h1).2))), (9, .sl 59 (List.map Send.av ((runA b h1).1)) false), (10, .sc (.bool ((runA b h1).2)))]) (h' := [.box 43 [.arr .u64 12 h1]]) (by kernel_rfl) ?_
    refine AR.reg hm podestalaw04_ActSame_k4 (by kernel_rfl) ?_
    refine DK.seg hG 6 [0, 1, 7, 8, 9, 10, 39] (t' := [(0, .sl 53 (List.map Act.av a) f_a), (1, .sl 53 (List.map Act.av b) f_b), (7, .sl 59 (List.map Send.av ((runA a h1).1)) false), (8, .sc (.bool ((runA a h1).2))), (9, .sl 59 (List.map Send.av ((runA b h1).1)) false), (10, .sc (.bool ((runA b h1).2))), (39, .sc (.bool ((((List.map Send.av ((runA a h1).1)).length : Nat) : Int) == (((List.map Send.av ((runA b h1).1)).length : Nat) : Int))))]) (h' := [.box 43 [.arr .u64 12 h1]]) (by kernel_rfl) rfl ?_
    refine DK.mux 39 ((((List.map Send.av ((runA a h1).1)).length : Nat) : Int) == (((List.map Send.av ((runA b h1).1)).length : Nat) : Int)) (j := 10) (h' := [.box 43 [.arr .u64 12 h1]]) (by kernel_rfl) (fun z => [(0, .sl 53 (List.map Act.av a) f_a), (1, .sl 53 (List.map Act.av b) f_b), (7, .sl 59 (List.map Send.av ((runA a h1).1)) false), (9, .sl 59 (List.map Send.av ((runA b h1).1)) false), (43, .sc (.bool (z && ((runA a h1).2 == (runA b h1).2))))]) ?J3 (fun hb J => ?ht3) (fun hb J => ?hf3)
    case ht3 =>
      exact DK.seg hG 4 [0, 1, 7, 9, 43] (by kernel_rfl) rfl J
    case hf3 =>
      exact DK.seg hG 4 [0, 1, 7, 9, 43] (by kernel_rfl) rfl J
    refine DK.seg hG 1 [0, 1, 7, 9, 11] (t' := [(0, .sl 53 (List.map Act.av a) f_a), (1, .sl 53 (List.map Act.av b) f_b), (7, .sl 59 (List.map Send.av ((runA a h1).1)) false), (9, .sl 59 (List.map Send.av ((runA b h1).1)) false), (11, .sc (.bool (((((List.map Send.av ((runA a h1).1)).length : Nat) : Int) == (((List.map Send.av ((runA b h1).1)).length : Nat) : Int)) && ((runA a h1).2 == (runA b h1).2))))]) (h' := [.box 43 [.arr .u64 12 h1]]) (by kernel_rfl) rfl ?_
    refine DK.done (by kernel_rfl) (by kernel_rfl) ?_
    refine AR.seg hG hm 4 [0, 1, 7, 9, 11, 12] (k' := [.code [1, 1, 1, 1, 1, 0, 1, 0], .blk 0, .code [1, 1, 1, 1, 1, 1]]) (t' := [(0, .sl 53 (List.map Act.av a) f_a), (1, .sl 53 (List.map Act.av b) f_b), (7, .sl 59 (List.map Send.av ((runA a h1).1)) false), (9, .sl 59 (List.map Send.av ((runA b h1).1)) false), (11, .sc (.bool (((((List.map Send.av ((runA a h1).1)).length : Nat) : Int) == (((List.map Send.av ((runA b h1).1)).length : Nat) : Int)) && ((runA a h1).2 == (runA b h1).2)))), (12, .sc (.int .i64 0))]) (h' := [.box 43 [.arr .u64 12 h1]]) (by kernel_rfl) ?_
    obtain ⟨v, hv, H⟩ := Option.bind_eq_some_iff.1 H
    refine AR.into (by kernel_rfl) ?_
    refine podestalaw04_ActSame_l0_walk q0 a b h1 f_a f_b r c0 hc0 v ?_ q0 (((((List.map Send.av ((runA a h1).1)).length : Nat) : Int) == (((List.map Send.av ((runA b h1).1)).length : Nat) : Int)) && ((runA a h1).2 == (runA b h1).2)) 0 hv
    refine AR.seg hG hm 1 [0, 1, 11] (k' := [.code [1, 1, 1, 1, 1, 1, 0], .code [1, 1, 1, 1, 1, 1, 1]]) (t' := [(0, .sl 53 (List.map Act.av a) f_a), (1, .sl 53 (List.map Act.av b) f_b), (11, .sc (.bool v))]) (h' := [.box 43 [.arr .u64 12 h1]]) (by kernel_rfl) ?_
    refine AR.reg hm podestalaw04_ActSame_k7 (by kernel_rfl) ?_
    refine DK.op' [0, 1, 11, 62] (t' := [(0, .sl 53 (List.map Act.av a) f_a), (1, .sl 53 (List.map Act.av b) f_b), (11, .sc (.bool v)), (62, .sc (.bool true))]) (h' := [.box 43 [.arr .u64 12 h1]]) (LSpec.callP' (podestalaw04_answers_ok) (by kernel_rfl)) (by kernel_rfl) rfl (by kernel_rfl) rfl ?_
    refine DK.seg hG 3 [0, 1, 11, 63, 64, 65] (t' := [(0, .sl 53 (List.map Act.av a) f_a), (1, .sl 53 (List.map Act.av b) f_b), (11, .sc (.bool v)), (63, .sc (.bool true)), (64, .sl 53 (List.map Act.av a) f_a), (65, .sl 53 (List.map Act.av b) f_b)]) (h' := [.box 43 [.arr .u64 12 h1]]) (by kernel_rfl) rfl ?_
    refine DK.op' [0, 1, 11, 63, 66] (t' := [(0, .sl 53 (List.map Act.av a) f_a), (1, .sl 53 (List.map Act.av b) f_b), (11, .sc (.bool v)), (63, .sc (.bool true)), (66, .sc (.bool (act_Same a b)))]) (h' := [.box 43 [.arr .u64 12 h1]]) (LSpec.callP' (act_Same_calls a b f_a f_b) (by kernel_rfl)) (by kernel_rfl) rfl (by kernel_rfl) rfl ?_
    refine DK.seg hG 2 [0, 1, 11, 63, 66, 67, 68] (t' := [(0, .sl 53 (List.map Act.av a) f_a), (1, .sl 53 (List.map Act.av b) f_b), (11, .sc (.bool v)), (63, .sc (.bool true)), (66, .sc (.bool (act_Same a b))), (67, .sl 53 (List.map Act.av a) f_a), (68, .sl 53 (List.map Act.av b) f_b)]) (h' := [.box 43 [.arr .u64 12 h1]]) (by kernel_rfl) rfl ?_
    refine DK.op' [0, 1, 11, 63, 66, 69] (t' := [(0, .sl 53 (List.map Act.av a) f_a), (1, .sl 53 (List.map Act.av b) f_b), (11, .sc (.bool v)), (63, .sc (.bool true)), (66, .sc (.bool (act_Same a b))), (69, .sc (.bool (a == b)))]) (h' := [.box 43 [.arr .u64 12 h1]]) (LSpec.callP' (podestaref04_SameActs_ok a b f_a f_b) (by kernel_rfl)) (by kernel_rfl) rfl (by kernel_rfl) rfl ?_
    refine DK.seg hG 3 [0, 1, 11, 72] (t' := [(0, .sl 53 (List.map Act.av a) f_a), (1, .sl 53 (List.map Act.av b) f_b), (11, .sc (.bool v)), (72, .sc (.bool ((act_Same a b) == (a == b))))]) (h' := [.box 43 [.arr .u64 12 h1]]) (by kernel_rfl) rfl ?_
    refine DK.mux 72 ((act_Same a b) == (a == b)) (j := 15) (h' := [.box 43 [.arr .u64 12 h1]]) (by kernel_rfl) (fun z => [(0, .sl 53 (List.map Act.av a) f_a), (1, .sl 53 (List.map Act.av b) f_b), (11, .sc (.bool v)), (76, .sc (.bool (z && (act_Same a a))))]) ?J10 (fun hb J => ?ht10) (fun hb J => ?hf10)
    case ht10 =>
      refine DK.seg hG 2 [0, 1, 11, 72, 73, 74] (t' := [(0, .sl 53 (List.map Act.av a) f_a), (1, .sl 53 (List.map Act.av b) f_b), (11, .sc (.bool v)), (72, .sc (.bool true)), (73, .sl 53 (List.map Act.av a) f_a), (74, .sl 53 (List.map Act.av a) f_a)]) (h' := [.box 43 [.arr .u64 12 h1]]) (by kernel_rfl) rfl ?_
      refine DK.op' [0, 1, 11, 72, 75] (t' := [(0, .sl 53 (List.map Act.av a) f_a), (1, .sl 53 (List.map Act.av b) f_b), (11, .sc (.bool v)), (72, .sc (.bool true)), (75, .sc (.bool (act_Same a a)))]) (h' := [.box 43 [.arr .u64 12 h1]]) (LSpec.callP' (act_Same_calls a a f_a f_a) (by kernel_rfl)) (by kernel_rfl) rfl (by kernel_rfl) rfl ?_
      exact DK.seg hG 1 [0, 1, 11, 76] (by kernel_rfl) rfl J
    case hf10 =>
      exact DK.seg hG 4 [0, 1, 11, 76] (by kernel_rfl) rfl J
    refine DK.seg hG 1 [0, 1, 11, 77] (t' := [(0, .sl 53 (List.map Act.av a) f_a), (1, .sl 53 (List.map Act.av b) f_b), (11, .sc (.bool v)), (77, .sc (.bool (((act_Same a b) == (a == b)) && (act_Same a a))))]) (h' := [.box 43 [.arr .u64 12 h1]]) (by kernel_rfl) rfl ?_
    refine DK.mux 77 (((act_Same a b) == (a == b)) && (act_Same a a)) (j := 24) (h' := [.box 43 [.arr .u64 12 h1]]) (by kernel_rfl) (fun z => [(85, .sc (.bool (z && ((!(act_Same a b)) || v))))]) ?J12 (fun hb J => ?ht12) (fun hb J => ?hf12)
    case ht12 =>
      refine DK.seg hG 2 [11, 77, 78, 79] (t' := [(11, .sc (.bool v)), (77, .sc (.bool true)), (78, .sl 53 (List.map Act.av a) f_a), (79, .sl 53 (List.map Act.av b) f_b)]) (h' := [.box 43 [.arr .u64 12 h1]]) (by kernel_rfl) rfl ?_
      refine DK.op' [11, 77, 80] (t' := [(11, .sc (.bool v)), (77, .sc (.bool true)), (80, .sc (.bool (act_Same a b)))]) (h' := [.box 43 [.arr .u64 12 h1]]) (LSpec.callP' (act_Same_calls a b f_a f_b) (by kernel_rfl)) (by kernel_rfl) rfl (by kernel_rfl) rfl ?_
      refine DK.seg hG 2 [11, 77, 82] (t' := [(11, .sc (.bool v)), (77, .sc (.bool true)), (82, .sc (.bool (!(act_Same a b))))]) (h' := [.box 43 [.arr .u64 12 h1]]) (by kernel_rfl) rfl ?_
      refine DK.mux 82 (!(act_Same a b)) (j := 23) (h' := [.box 43 [.arr .u64 12 h1]]) (by kernel_rfl) (fun z => [(77, .sc (.bool true)), (84, .sc (.bool (z || v)))]) ?J13 (fun hb J => ?ht13) (fun hb J => ?hf13)
      case ht13 =>
        exact DK.seg hG 2 [77, 84] (by kernel_rfl) rfl J
      case hf13 =>
        exact DK.seg hG 2 [77, 84] (by kernel_rfl) rfl J
      exact DK.seg hG 1 [85] (by kernel_rfl) rfl J
    case hf12 =>
      exact DK.seg hG 8 [85] (by kernel_rfl) rfl J
    refine DK.seg hG 1 [6] (t' := [(6, .sc (.bool ((((act_Same a b) == (a == b)) && (act_Same a a)) && ((!(act_Same a b)) || v))))]) (h' := [.box 43 [.arr .u64 12 h1]]) (by kernel_rfl) rfl ?_
    refine DK.done (by kernel_rfl) (by kernel_rfl) ?_
    obtain rfl := Option.some.inj H
    exact AR.ret0 (fn := Try.f10) hG Try.func10 (by kernel_rfl) hc0 (r0 := .sc (.bool ((((act_Same a b) == (a == b)) && (act_Same a a)) && ((!(act_Same a b)) || v)))) (by kernel_rfl) (WkV.refl _)

/-! ### podestalaw04.ActJoins: function 8 -/
noncomputable def podestalaw04_ActJoins_F : Go.Sh.Fn := ⟨8, bodyOf Try.f8, 114⟩
def podestalaw04_ActJoins_k2 : List Kd := [.pure, .pure]
def podestalaw04_ActJoins_k4 : List Kd := [.pure, .pure, .pure, .pure, .pure, .pure, .pure, .pure, .pure, .pure, .pure, .loud]
def podestalaw04_ActJoins_k3 : List Kd := [.pure, .pure, .pure, .pure, .pure, .pure]
def podestalaw04_ActJoins_k9 : List Kd := [.pure, .pure, .pure, .pure, .pure, .pure, .read, .read, .pure]
def podestalaw04_ActJoins_k10 : List Kd := [.pure, .pure, .pure, .pure, .pure, .pure, .pure, .pure, .pure, .pure]
def podestalaw04_ActJoins_k8 : List Kd := [.pure, .pure, .loud, .pure, .loud, .pure]
def podestalaw04_ActJoins_k7 : List Kd := [.pure, .read, .pure, .pure, .pure, .pure, .pure, .pure]
def podestalaw04_ActJoins_k6 : List Kd := [.pure, .pure, .pure, .pure, .pure, .pure, .pure, .pure]
def podestalaw04_ActJoins_k5 : List Kd := [.pure, .pure, .loud, .pure, .loud, .pure, .loud, .pure, .pure, .pure, .pure, .pure]
def podestalaw04_ActJoins_k1 : List Kd := [.pure, .pure, .pure, .pure, .pure, .pure, .pure, .pure, .pure, .pure, .pure, .pure, .pure, .pure, .pure, .pure]
def podestalaw04_ActJoins_k0 : List Kd := [.pure, .pure]
def podestalaw04_ActJoins_l0s : List Act → List Int → Option ((List Int))
  | [], g =>
    some g
  | x :: rest, g =>
    (bif (x.Kind == 2) then
      reqO (decide (0 ≤ x.Field) && decide (x.Field < ((12 : Nat) : Int))) (
      podestalaw04_ActJoins_l0s rest (g.set (x.Field.toNat) x.Value))
    else
      podestalaw04_ActJoins_l0s rest g)
theorem podestalaw04_ActJoins_l0_walk (a : List Act) (b : List Act) (h1 : List Int) (f_a : Bool) (f_b : Bool) (r : Bool) (c0 : Ctx) (hc0 : c0.m.length = 0) (res : (List Int)) (J : AR Try.prog tab podestalaw04_ActJoins_F c0 (Rp tab.S c0 (.sc (.bool r)) []) [.code [1, 1, 1, 1]] [(0, .sl 53 (List.map Act.av a) f_a), (1, .sl 53 (List.map Act.av b) f_b), (5, .ep [.arr .u64 12 h1] 0 none), (7, .ptr 0 0 none)] [.box 43 [.arr .u64 12 res]]) :
    ∀ (rest : List Act) (i : Nat) (hd : a.drop i = rest) (g : List Int) (H : podestalaw04_ActJoins_l0s rest g = some res), AR Try.prog tab podestalaw04_ActJoins_F c0 (Rp tab.S c0 (.sc (.bool r)) []) [.code [1, 1, 1, 0, 1, 0, 0], .loop [1, 1, 1, 0, 1, 0], .blk 0, .code [1, 1, 1, 1]] [(0, .sl 53 (List.map Act.av a) f_a), (1, .sl 53 (List.map Act.av b) f_b), (5, .ep [.arr .u64 12 h1] 0 none), (7, .ptr 0 0 none), (8, .sc (.int .i64 ((i : Nat) : Int)))] [.box 43 [.arr .u64 12 g]] := by
  have hG := tab_ok
  have hm := mixed
  intro rest
  induction rest with
  | nil =>
    intro i hd g H
    rw [podestalaw04_ActJoins_l0s] at H
    refine AR.facts 0 rfl fun hf => ?_
    have hlen : a.length ≤ 9223372036854775807 := by have hq := len_ok hf.2.1; rw [List.length_map] at hq; exact hq
    have hge : a.length ≤ i := List.drop_eq_nil_iff.1 hd
    have hc : (decide (((i : Nat) : Int) < (((List.map Act.av a).length : Nat) : Int))) = false := by rw [List.length_map]; exact decide_eq_false (by omega)
    refine AR.seg hG hm 3 [0, 1, 5, 7, 8, 38] (k' := [.code [1, 1, 1, 0, 1, 0, 0, 0, 1], .code [1, 1, 1, 0, 1, 0, 0, 1], .loop [1, 1, 1, 0, 1, 0], .blk 0, .code [1, 1, 1, 1]]) (t' := [(0, .sl 53 (List.map Act.av a) f_a), (1, .sl 53 (List.map Act.av b) f_b), (5, .ep [.arr .u64 12 h1] 0 none), (7, .ptr 0 0 none), (8, .sc (.int .i64 ((i : Nat) : Int))), (38, .sc (.bool (decide (((i : Nat) : Int) < (((List.map Act.av a).length : Nat) : Int)))))]) (h' := [.box 43 [.arr .u64 12 g]]) (by kernel_rfl) ?_
    refine AR.cond (.tmp 38) (decide (((i : Nat) : Int) < (((List.map Act.av a).length : Nat) : Int))) (by kernel_rfl) (by kernel_rfl) (fun hb => ?ht10) (fun hb => ?hf10)
    case ht10 => exact absurd (hb.symm.trans hc) (by decide)
    case hf10 =>
      refine AR.seg hG hm 1 [0, 1, 5, 7] (k' := [.code [1, 1, 1, 1]]) (t' := [(0, .sl 53 (List.map Act.av a) f_a), (1, .sl 53 (List.map Act.av b) f_b), (5, .ep [.arr .u64 12 h1] 0 none), (7, .ptr 0 0 none)]) (h' := [.box 43 [.arr .u64 12 g]]) (by kernel_rfl) ?_
      refine AR.keep [0, 1, 5, 7] (t' := [(0, .sl 53 (List.map Act.av a) f_a), (1, .sl 53 (List.map Act.av b) f_b), (5, .ep [.arr .u64 12 h1] 0 none), (7, .ptr 0 0 none)]) (by kernel_rfl) ?_
      obtain rfl := Option.some.inj H
      exact J
  | cons x rest ih =>
    intro i hd g H
    rw [podestalaw04_ActJoins_l0s] at H
    refine AR.facts 0 rfl fun hf => ?_
    have hlen : a.length ≤ 9223372036854775807 := by have hq := len_ok hf.2.1; rw [List.length_map] at hq; exact hq
    obtain ⟨hlt, hv_i, hd2⟩ := drop_cons hd
    have hc : (decide (((i : Nat) : Int) < (((List.map Act.av a).length : Nat) : Int))) = true := by rw [List.length_map]; exact decide_eq_true (by omega)
    have hw : IntKind.i64.wrap (((i : Nat) : Int) + 1) = ((i + 1 : Nat) : Int) := wrapI_succ (by omega)
    refine AR.seg hG hm 3 [0, 1, 5, 7, 8, 38] (k' := [.code [1, 1, 1, 0, 1, 0, 0, 0, 1], .code [1, 1, 1, 0, 1, 0, 0, 1], .loop [1, 1, 1, 0, 1, 0], .blk 0, .code [1, 1, 1, 1]]) (t' := [(0, .sl 53 (List.map Act.av a) f_a), (1, .sl 53 (List.map Act.av b) f_b), (5, .ep [.arr .u64 12 h1] 0 none), (7, .ptr 0 0 none), (8, .sc (.int .i64 ((i : Nat) : Int))), (38, .sc (.bool (decide (((i : Nat) : Int) < (((List.map Act.av a).length : Nat) : Int)))))]) (h' := [.box 43 [.arr .u64 12 g]]) (by kernel_rfl) ?_
    refine AR.cond (.tmp 38) (decide (((i : Nat) : Int) < (((List.map Act.av a).length : Nat) : Int))) (by kernel_rfl) (by kernel_rfl) (fun hb => ?ht11) (fun hb => ?hf11)
    case ht11 =>
      refine AR.seg hG hm 4 [0, 1, 5, 7, 8] (k' := [.code [1, 1, 1, 0, 1, 0, 0, 1, 0, 0, 0], .code [1, 1, 1, 0, 1, 0, 0, 1, 0, 0, 1], .blk 1, .code [1, 1, 1, 0, 1, 0, 0, 1, 1], .loop [1, 1, 1, 0, 1, 0], .blk 0, .code [1, 1, 1, 1]]) (t' := [(0, .sl 53 (List.map Act.av a) f_a), (1, .sl 53 (List.map Act.av b) f_b), (5, .ep [.arr .u64 12 h1] 0 none), (7, .ptr 0 0 none), (8, .sc (.int .i64 ((i : Nat) : Int)))]) (h' := [.box 43 [.arr .u64 12 g]]) (by kernel_rfl) ?_
      refine AR.reg hm podestalaw04_ActJoins_k3 (by kernel_rfl) ?_
      refine DK.seg hG 2 [0, 1, 5, 7, 8, 41, 42] (t' := [(0, .sl 53 (List.map Act.av a) f_a), (1, .sl 53 (List.map Act.av b) f_b), (5, .ep [.arr .u64 12 h1] 0 none), (7, .ptr 0 0 none), (8, .sc (.int .i64 ((i : Nat) : Int))), (41, .sl 53 (List.map Act.av a) f_a), (42, .sc (.int .i64 ((i : Nat) : Int)))]) (h' := [.box 43 [.arr .u64 12 g]]) (by kernel_rfl) rfl ?_
      refine DK.op' [0, 1, 5, 7, 8, 43] (t' := [(0, .sl 53 (List.map Act.av a) f_a), (1, .sl 53 (List.map Act.av b) f_b), (5, .ep [.arr .u64 12 h1] 0 none), (7, .ptr 0 0 none), (8, .sc (.int .i64 ((i : Nat) : Int))), (43, .ep [.sc (.int .i64 x.Kind), .sc (.int .i64 x.Port), .sc (.int .i64 x.Field), .sc (.int .u64 x.Value)] 0 none)]) (h' := [.box 43 [.arr .u64 12 g]]) (LSpec.index' (r := Act.av x) (fs := [.sc (.int .i64 x.Kind), .sc (.int .i64 x.Port), .sc (.int .i64 x.Field), .sc (.int .u64 x.Value)]) hG (rows := List.map Act.av a) (j := ((i : Nat) : Int)) (by kernel_rfl) (ixO_map hv_i _) (by kernel_rfl)) (by kernel_rfl) rfl (by kernel_rfl) rfl ?_
      refine DK.seg hG 3 [0, 1, 5, 7, 8, 46] (t' := [(0, .sl 53 (List.map Act.av a) f_a), (1, .sl 53 (List.map Act.av b) f_b), (5, .ep [.arr .u64 12 h1] 0 none), (7, .ptr 0 0 none), (8, .sc (.int .i64 ((i : Nat) : Int))), (46, .sc (.bool (x.Kind == 2)))]) (h' := [.box 43 [.arr .u64 12 g]]) (by kernel_rfl) rfl ?_
      refine DK.done (by kernel_rfl) (by kernel_rfl) ?_
      refine AR.cond (.tmp 46) (x.Kind == 2) (by kernel_rfl) (by kernel_rfl) (fun hb => ?ht12) (fun hb => ?hf12)
      case ht12 =>
        replace H := cond_t hb H
        refine AR.reg hm podestalaw04_ActJoins_k4 (by kernel_rfl) ?_
        refine DK.seg hG 2 [0, 1, 5, 7, 8, 47, 48] (t' := [(0, .sl 53 (List.map Act.av a) f_a), (1, .sl 53 (List.map Act.av b) f_b), (5, .ep [.arr .u64 12 h1] 0 none), (7, .ptr 0 0 none), (8, .sc (.int .i64 ((i : Nat) : Int))), (47, .sl 53 (List.map Act.av a) f_a), (48, .sc (.int .i64 ((i : Nat) : Int)))]) (h' := [.box 43 [.arr .u64 12 g]]) (by kernel_rfl) rfl ?_
        refine DK.op' [0, 1, 5, 7, 8, 49] (t' := [(0, .sl 53 (List.map Act.av a) f_a), (1, .sl 53 (List.map Act.av b) f_b), (5, .ep [.arr .u64 12 h1] 0 none), (7, .ptr 0 0 none), (8, .sc (.int .i64 ((i : Nat) : Int))), (49, .ep [.sc (.int .i64 x.Kind), .sc (.int .i64 x.Port), .sc (.int .i64 x.Field), .sc (.int .u64 x.Value)] 0 none)]) (h' := [.box 43 [.arr .u64 12 g]]) (LSpec.index' (r := Act.av x) (fs := [.sc (.int .i64 x.Kind), .sc (.int .i64 x.Port), .sc (.int .i64 x.Field), .sc (.int .u64 x.Value)]) hG (rows := List.map Act.av a) (j := ((i : Nat) : Int)) (by kernel_rfl) (ixO_map hv_i _) (by kernel_rfl)) (by kernel_rfl) rfl (by kernel_rfl) rfl ?_
        refine DK.seg hG 4 [0, 1, 5, 7, 8, 51, 52, 53] (t' := [(0, .sl 53 (List.map Act.av a) f_a), (1, .sl 53 (List.map Act.av b) f_b), (5, .ep [.arr .u64 12 h1] 0 none), (7, .ptr 0 0 none), (8, .sc (.int .i64 ((i : Nat) : Int))), (51, .sc (.int .i64 x.Field)), (52, .sl 53 (List.map Act.av a) f_a), (53, .sc (.int .i64 ((i : Nat) : Int)))]) (h' := [.box 43 [.arr .u64 12 g]]) (by kernel_rfl) rfl ?_
        refine DK.op' [0, 1, 5, 7, 8, 51, 54] (t' := [(0, .sl 53 (List.map Act.av a) f_a), (1, .sl 53 (List.map Act.av b) f_b), (5, .ep [.arr .u64 12 h1] 0 none), (7, .ptr 0 0 none), (8, .sc (.int .i64 ((i : Nat) : Int))), (51, .sc (.int .i64 x.Field)), (54, .ep [.sc (.int .i64 x.Kind), .sc (.int .i64 x.Port), .sc (.int .i64 x.Field), .sc (.int .u64 x.Value)] 0 none)]) (h' := [.box 43 [.arr .u64 12 g]]) (LSpec.index' (r := Act.av x) (fs := [.sc (.int .i64 x.Kind), .sc (.int .i64 x.Port), .sc (.int .i64 x.Field), .sc (.int .u64 x.Value)]) hG (rows := List.map Act.av a) (j := ((i : Nat) : Int)) (by kernel_rfl) (ixO_map hv_i _) (by kernel_rfl)) (by kernel_rfl) rfl (by kernel_rfl) rfl ?_
        refine DK.seg hG 2 [0, 1, 5, 7, 8, 51, 56] (t' := [(0, .sl 53 (List.map Act.av a) f_a), (1, .sl 53 (List.map Act.av b) f_b), (5, .ep [.arr .u64 12 h1] 0 none), (7, .ptr 0 0 none), (8, .sc (.int .i64 ((i : Nat) : Int))), (51, .sc (.int .i64 x.Field)), (56, .sc (.int .u64 x.Value))]) (h' := [.box 43 [.arr .u64 12 g]]) (by kernel_rfl) rfl ?_
        obtain ⟨hreq, H⟩ := reqO_some H
        refine DK.op' [0, 1, 5, 7, 8, 56, 57] (t' := [(0, .sl 53 (List.map Act.av a) f_a), (1, .sl 53 (List.map Act.av b) f_b), (5, .ep [.arr .u64 12 h1] 0 none), (7, .ptr 0 0 none), (8, .sc (.int .i64 ((i : Nat) : Int))), (56, .sc (.int .u64 x.Value)), (57, .ptr 0 0 (some (x.Field.toNat, 12)))]) (h' := [.box 43 [.arr .u64 12 g]]) (LSpec.idxPtr (o := 0) (off := 0) (m := 12) (j := x.Field) hG hreq (by kernel_rfl)) (by kernel_rfl) rfl (by kernel_rfl) rfl ?_
        refine DK.seg hG 1 [0, 1, 5, 7, 8] (t' := [(0, .sl 53 (List.map Act.av a) f_a), (1, .sl 53 (List.map Act.av b) f_b), (5, .ep [.arr .u64 12 h1] 0 none), (7, .ptr 0 0 none), (8, .sc (.int .i64 ((i : Nat) : Int)))]) (h' := [.box 43 [.arr .u64 12 (g.set (x.Field.toNat) x.Value)]]) (by kernel_rfl) rfl ?_
        refine DK.done (by kernel_rfl) (by kernel_rfl) ?_
        refine AR.seg hG hm 2 [0, 1, 5, 7, 8] (k' := [.loop [1, 1, 1, 0, 1, 0], .blk 0, .code [1, 1, 1, 1]]) (t' := [(0, .sl 53 (List.map Act.av a) f_a), (1, .sl 53 (List.map Act.av b) f_b), (5, .ep [.arr .u64 12 h1] 0 none), (7, .ptr 0 0 none), (8, .sc (.int .i64 (IntKind.i64.wrap (((i : Nat) : Int) + 1))))]) (h' := [.box 43 [.arr .u64 12 (g.set (x.Field.toNat) x.Value)]]) (by kernel_rfl) ?_
        refine AR.keep [0, 1, 5, 7, 8] (t' := [(0, .sl 53 (List.map Act.av a) f_a), (1, .sl 53 (List.map Act.av b) f_b), (5, .ep [.arr .u64 12 h1] 0 none), (7, .ptr 0 0 none), (8, .sc (.int .i64 (IntKind.i64.wrap (((i : Nat) : Int) + 1))))]) (by kernel_rfl) ?_
        refine AR.loop_round ?_
        rw [hw]
        exact ih (i + 1) hd2 (g.set (x.Field.toNat) x.Value) H
      case hf12 =>
        replace H := cond_f hb H
        refine AR.seg hG hm 3 [0, 1, 5, 7, 8] (k' := [.loop [1, 1, 1, 0, 1, 0], .blk 0, .code [1, 1, 1, 1]]) (t' := [(0, .sl 53 (List.map Act.av a) f_a), (1, .sl 53 (List.map Act.av b) f_b), (5, .ep [.arr .u64 12 h1] 0 none), (7, .ptr 0 0 none), (8, .sc (.int .i64 (IntKind.i64.wrap (((i : Nat) : Int) + 1))))]) (h' := [.box 43 [.arr .u64 12 g]]) (by kernel_rfl) ?_
        refine AR.keep [0, 1, 5, 7, 8] (t' := [(0, .sl 53 (List.map Act.av a) f_a), (1, .sl 53 (List.map Act.av b) f_b), (5, .ep [.arr .u64 12 h1] 0 none), (7, .ptr 0 0 none), (8, .sc (.int .i64 (IntKind.i64.wrap (((i : Nat) : Int) + 1))))]) (by kernel_rfl) ?_
        refine AR.loop_round ?_
        rw [hw]
        exact ih (i + 1) hd2 g H
    case hf11 => exact absurd (hc.symm.trans hb) (by decide)

def podestalaw04_ActJoins_l1s (a : List Act) (b : List Act) (h1 : List Int) (v : (List Int)) (t1 : Bool) : List Send → Nat → Option (Sum (Bool × Bool × Bool × (List Send)) (Bool))
  | [], i1 =>
    some (.inl (t1, (runA a h1).2, (runA b v).2, ((([] : List Send) ++ (runA a h1).1) ++ (runA b v).1)))
  | x1 :: rest, i1 =>
    (ixO ((([] : List Send) ++ (runA a h1).1) ++ (runA b v).1) ((i1 : Nat) : Int)).bind fun x2 =>
    (bif (!((x1.Port == x2.Port) && (x1.Head == x2.Head))) then
      some (.inr false)
    else
      podestalaw04_ActJoins_l1s a b h1 v t1 rest (i1 + 1) )
theorem podestalaw04_ActJoins_l1_walk (a : List Act) (b : List Act) (h1 : List Int) (v : (List Int)) (t1 : Bool) (f_a : Bool) (f_b : Bool) (r : Bool) (c0 : Ctx) (hc0 : c0.m.length = 0) (res : Sum (Bool × Bool × Bool × (List Send)) (Bool)) (J : ∀ w : Bool × Bool × Bool × (List Send), res = .inl w → AR Try.prog tab podestalaw04_ActJoins_F c0 (Rp tab.S c0 (.sc (.bool r)) []) [.code [1, 1, 1, 1, 1, 1, 1, 1, 1, 1]] [(10, .sc (.bool w.1)), (12, .sc (.bool w.2.1)), (14, .sc (.bool w.2.2.1))] [.box 43 [.arr .u64 12 v], .row 53 (List.map Act.av ((([] : List Act) ++ a) ++ b)) 1000000 false, .row 59 (List.map Send.av w.2.2.2) 1000000 true]) (Jr : ∀ w, res = .inr w → w = r) :
    ∀ (rest : List Send) (i1 : Nat) (hd : ((runA ((([] : List Act) ++ a) ++ b) h1).1).drop i1 = rest) (H : podestalaw04_ActJoins_l1s a b h1 v t1 rest i1 = some res), AR Try.prog tab podestalaw04_ActJoins_F c0 (Rp tab.S c0 (.sc (.bool r)) []) [.code [1, 1, 1, 1, 1, 1, 1, 1, 1, 0, 1, 0, 0], .loop [1, 1, 1, 1, 1, 1, 1, 1, 1, 0, 1, 0], .blk 2, .code [1, 1, 1, 1, 1, 1, 1, 1, 1, 1]] [(9, .sl 59 (List.map Send.av ((runA ((([] : List Act) ++ a) ++ b) h1).1)) false), (10, .sc (.bool t1)), (12, .sc (.bool ((runA a h1).2))), (14, .sc (.bool ((runA b v).2))), (15, .own 2 1000000), (16, .sc (.int .i64 ((i1 : Nat) : Int)))] [.box 43 [.arr .u64 12 v], .row 53 (List.map Act.av ((([] : List Act) ++ a) ++ b)) 1000000 false, .row 59 (List.map Send.av ((([] : List Send) ++ (runA a h1).1) ++ (runA b v).1)) 1000000 true] := by
  have hG := tab_ok
  have hm := mixed
  intro rest
  induction rest with
  | nil =>
    intro i1 hd  H
    rw [podestalaw04_ActJoins_l1s] at H
    refine AR.facts 9 rfl fun hf => ?_
    have hlen : ((runA ((([] : List Act) ++ a) ++ b) h1).1).length ≤ 9223372036854775807 := by have hq := len_ok hf.2.1; rw [List.length_map] at hq; exact hq
    have hge : ((runA ((([] : List Act) ++ a) ++ b) h1).1).length ≤ i1 := List.drop_eq_nil_iff.1 hd
    have hc : (decide (((i1 : Nat) : Int) < (((List.map Send.av ((runA ((([] : List Act) ++ a) ++ b) h1).1)).length : Nat) : Int))) = false := by rw [List.length_map]; exact decide_eq_false (by omega)
    refine AR.seg hG hm 3 [9, 10, 12, 14, 15, 16, 93] (k' := [.code [1, 1, 1, 1, 1, 1, 1, 1, 1, 0, 1, 0, 0, 0, 1], .code [1, 1, 1, 1, 1, 1, 1, 1, 1, 0, 1, 0, 0, 1], .loop [1, 1, 1, 1, 1, 1, 1, 1, 1, 0, 1, 0], .blk 2, .code [1, 1, 1, 1, 1, 1, 1, 1, 1, 1]]) (t' := [(9, .sl 59 (List.map Send.av ((runA ((([] : List Act) ++ a) ++ b) h1).1)) false), (10, .sc (.bool t1)), (12, .sc (.bool ((runA a h1).2))), (14, .sc (.bool ((runA b v).2))), (15, .own 2 1000000), (16, .sc (.int .i64 ((i1 : Nat) : Int))), (93, .sc (.bool (decide (((i1 : Nat) : Int) < (((List.map Send.av ((runA ((([] : List Act) ++ a) ++ b) h1).1)).length : Nat) : Int)))))]) (h' := [.box 43 [.arr .u64 12 v], .row 53 (List.map Act.av ((([] : List Act) ++ a) ++ b)) 1000000 false, .row 59 (List.map Send.av ((([] : List Send) ++ (runA a h1).1) ++ (runA b v).1)) 1000000 true]) (by kernel_rfl) ?_
    refine AR.cond (.tmp 93) (decide (((i1 : Nat) : Int) < (((List.map Send.av ((runA ((([] : List Act) ++ a) ++ b) h1).1)).length : Nat) : Int))) (by kernel_rfl) (by kernel_rfl) (fun hb => ?ht22) (fun hb => ?hf22)
    case ht22 => exact absurd (hb.symm.trans hc) (by decide)
    case hf22 =>
      refine AR.seg hG hm 1 [10, 12, 14] (k' := [.code [1, 1, 1, 1, 1, 1, 1, 1, 1, 1]]) (t' := [(10, .sc (.bool t1)), (12, .sc (.bool ((runA a h1).2))), (14, .sc (.bool ((runA b v).2)))]) (h' := [.box 43 [.arr .u64 12 v], .row 53 (List.map Act.av ((([] : List Act) ++ a) ++ b)) 1000000 false, .row 59 (List.map Send.av ((([] : List Send) ++ (runA a h1).1) ++ (runA b v).1)) 1000000 true]) (by kernel_rfl) ?_
      refine AR.keep [10, 12, 14] (t' := [(10, .sc (.bool t1)), (12, .sc (.bool ((runA a h1).2))), (14, .sc (.bool ((runA b v).2)))]) (by kernel_rfl) ?_
      exact J (t1, (runA a h1).2, (runA b v).2, ((([] : List Send) ++ (runA a h1).1) ++ (runA b v).1)) (Option.some.inj H).symm
  | cons x1 rest ih =>
    intro i1 hd  H
    rw [podestalaw04_ActJoins_l1s] at H
    refine AR.facts 9 rfl fun hf => ?_
    have hlen : ((runA ((([] : List Act) ++ a) ++ b) h1).1).length ≤ 9223372036854775807 := by have hq := len_ok hf.2.1; rw [List.length_map] at hq; exact hq
    obtain ⟨hlt, hv_i1, hd2⟩ := drop_cons hd
    have hc : (decide (((i1 : Nat) : Int) < (((List.map Send.av ((runA ((([] : List Act) ++ a) ++ b) h1).1)).length : Nat) : Int))) = true := by rw [List.length_map]; exact decide_eq_true (by omega)
    have hw : IntKind.i64.wrap (((i1 : Nat) : Int) + 1) = ((i1 + 1 : Nat) : Int) := wrapI_succ (by omega)
    refine AR.seg hG hm 3 [9, 10, 12, 14, 15, 16, 93] (k' := [.code [1, 1, 1, 1, 1, 1, 1, 1, 1, 0, 1, 0, 0, 0, 1], .code [1, 1, 1, 1, 1, 1, 1, 1, 1, 0, 1, 0, 0, 1], .loop [1, 1, 1, 1, 1, 1, 1, 1, 1, 0, 1, 0], .blk 2, .code [1, 1, 1, 1, 1, 1, 1, 1, 1, 1]]) (t' := [(9, .sl 59 (List.map Send.av ((runA ((([] : List Act) ++ a) ++ b) h1).1)) false), (10, .sc (.bool t1)), (12, .sc (.bool ((runA a h1).2))), (14, .sc (.bool ((runA b v).2))), (15, .own 2 1000000), (16, .sc (.int .i64 ((i1 : Nat) : Int))), (93, .sc (.bool (decide (((i1 : Nat) : Int) < (((List.map Send.av ((runA ((([] : List Act) ++ a) ++ b) h1).1)).length : Nat) : Int)))))]) (h' := [.box 43 [.arr .u64 12 v], .row 53 (List.map Act.av ((([] : List Act) ++ a) ++ b)) 1000000 false, .row 59 (List.map Send.av ((([] : List Send) ++ (runA a h1).1) ++ (runA b v).1)) 1000000 true]) (by kernel_rfl) ?_
    refine AR.cond (.tmp 93) (decide (((i1 : Nat) : Int) < (((List.map Send.av ((runA ((([] : List Act) ++ a) ++ b) h1).1)).length : Nat) : Int))) (by kernel_rfl) (by kernel_rfl) (fun hb => ?ht23) (fun hb => ?hf23)
    case ht23 =>
      refine AR.seg hG hm 4 [9, 10, 12, 14, 15, 16] (k' := [.code [1, 1, 1, 1, 1, 1, 1, 1, 1, 0, 1, 0, 0, 1, 0, 0, 0], .code [1, 1, 1, 1, 1, 1, 1, 1, 1, 0, 1, 0, 0, 1, 0, 0, 1], .blk 3, .code [1, 1, 1, 1, 1, 1, 1, 1, 1, 0, 1, 0, 0, 1, 1], .loop [1, 1, 1, 1, 1, 1, 1, 1, 1, 0, 1, 0], .blk 2, .code [1, 1, 1, 1, 1, 1, 1, 1, 1, 1]]) (t' := [(9, .sl 59 (List.map Send.av ((runA ((([] : List Act) ++ a) ++ b) h1).1)) false), (10, .sc (.bool t1)), (12, .sc (.bool ((runA a h1).2))), (14, .sc (.bool ((runA b v).2))), (15, .own 2 1000000), (16, .sc (.int .i64 ((i1 : Nat) : Int)))]) (h' := [.box 43 [.arr .u64 12 v], .row 53 (List.map Act.av ((([] : List Act) ++ a) ++ b)) 1000000 false, .row 59 (List.map Send.av ((([] : List Send) ++ (runA a h1).1) ++ (runA b v).1)) 1000000 true]) (by kernel_rfl) ?_
      refine AR.reg hm podestalaw04_ActJoins_k9 (by kernel_rfl) ?_
      refine DK.seg hG 2 [9, 10, 12, 14, 15, 16, 96, 97] (t' := [(9, .sl 59 (List.map Send.av ((runA ((([] : List Act) ++ a) ++ b) h1).1)) false), (10, .sc (.bool t1)), (12, .sc (.bool ((runA a h1).2))), (14, .sc (.bool ((runA b v).2))), (15, .own 2 1000000), (16, .sc (.int .i64 ((i1 : Nat) : Int))), (96, .sl 59 (List.map Send.av ((runA ((([] : List Act) ++ a) ++ b) h1).1)) false), (97, .sc (.int .i64 ((i1 : Nat) : Int)))]) (h' := [.box 43 [.arr .u64 12 v], .row 53 (List.map Act.av ((([] : List Act) ++ a) ++ b)) 1000000 false, .row 59 (List.map Send.av ((([] : List Send) ++ (runA a h1).1) ++ (runA b v).1)) 1000000 true]) (by kernel_rfl) rfl ?_
      refine DK.op' [9, 10, 12, 14, 15, 16, 98] (t' := [(9, .sl 59 (List.map Send.av ((runA ((([] : List Act) ++ a) ++ b) h1).1)) false), (10, .sc (.bool t1)), (12, .sc (.bool ((runA a h1).2))), (14, .sc (.bool ((runA b v).2))), (15, .own 2 1000000), (16, .sc (.int .i64 ((i1 : Nat) : Int))), (98, .ep [.sc (.int .i64 x1.Port), .arr .u64 12 x1.Head] 0 none)]) (h' := [.box 43 [.arr .u64 12 v], .row 53 (List.map Act.av ((([] : List Act) ++ a) ++ b)) 1000000 false, .row 59 (List.map Send.av ((([] : List Send) ++ (runA a h1).1) ++ (runA b v).1)) 1000000 true]) (LSpec.index' (r := Send.av x1) (fs := [.sc (.int .i64 x1.Port), .arr .u64 12 x1.Head]) hG (rows := List.map Send.av ((runA ((([] : List Act) ++ a) ++ b) h1).1)) (j := ((i1 : Nat) : Int)) (by kernel_rfl) (ixO_map hv_i1 _) (by kernel_rfl)) (by kernel_rfl) rfl (by kernel_rfl) rfl ?_
      refine DK.seg hG 3 [9, 10, 12, 14, 15, 16, 99, 100, 101] (t' := [(9, .sl 59 (List.map Send.av ((runA ((([] : List Act) ++ a) ++ b) h1).1)) false), (10, .sc (.bool t1)), (12, .sc (.bool ((runA a h1).2))), (14, .sc (.bool ((runA b v).2))), (15, .own 2 1000000), (16, .sc (.int .i64 ((i1 : Nat) : Int))), (99, Send.av x1), (100, .own 2 1000000), (101, .sc (.int .i64 ((i1 : Nat) : Int)))]) (h' := [.box 43 [.arr .u64 12 v], .row 53 (List.map Act.av ((([] : List Act) ++ a) ++ b)) 1000000 false, .row 59 (List.map Send.av ((([] : List Send) ++ (runA a h1).1) ++ (runA b v).1)) 1000000 true]) (by kernel_rfl) rfl ?_
      obtain ⟨x2, hv_x2, H⟩ := Option.bind_eq_some_iff.1 H
      refine DK.op' [9, 10, 12, 14, 15, 16, 99, 102] (t' := [(9, .sl 59 (List.map Send.av ((runA ((([] : List Act) ++ a) ++ b) h1).1)) false), (10, .sc (.bool t1)), (12, .sc (.bool ((runA a h1).2))), (14, .sc (.bool ((runA b v).2))), (15, .own 2 1000000), (16, .sc (.int .i64 ((i1 : Nat) : Int))), (99, Send.av x1), (102, .el 59 2 1000000 (((i1 : Nat) : Int).toNat) 0)]) (h' := [.box 43 [.arr .u64 12 v], .row 53 (List.map Act.av ((([] : List Act) ++ a) ++ b)) 1000000 false, .row 59 (List.map Send.av ((([] : List Send) ++ (runA a h1).1) ++ (runA b v).1)) 1000000 true]) (LSpec.indexOwn hG (e := 59) (o := 2) (k := 1000000) (rows := List.map Send.av ((([] : List Send) ++ (runA a h1).1) ++ (runA b v).1)) (j := ((i1 : Nat) : Int)) (ixO_req hv_x2 Send.av) (by kernel_rfl)) (by kernel_rfl) rfl (by kernel_rfl) rfl ?_
      refine DK.op' [9, 10, 12, 14, 15, 16, 99, 103] (t' := [(9, .sl 59 (List.map Send.av ((runA ((([] : List Act) ++ a) ++ b) h1).1)) false), (10, .sc (.bool t1)), (12, .sc (.bool ((runA a h1).2))), (14, .sc (.bool ((runA b v).2))), (15, .own 2 1000000), (16, .sc (.int .i64 ((i1 : Nat) : Int))), (99, Send.av x1), (103, Send.av x2)]) (h' := [.box 43 [.arr .u64 12 v], .row 53 (List.map Act.av ((([] : List Act) ++ a) ++ b)) 1000000 false, .row 59 (List.map Send.av ((([] : List Send) ++ (runA a h1).1) ++ (runA b v).1)) 1000000 true]) (LSpec.loadEl hG (ty := 59) (rows := List.map Send.av ((([] : List Send) ++ (runA a h1).1) ++ (runA b v).1)) (j := (((i1 : Nat) : Int).toNat)) (off := 0) (r := Send.av x2) (fs := [.sc (.int .i64 x2.Port), .arr .u64 12 x2.Head]) (rv := Send.av x2) (by kernel_rfl) (ixO_map hv_x2 Send.av).2 (by kernel_rfl) (by kernel_rfl)) (by kernel_rfl) rfl (by kernel_rfl) rfl ?_
      refine DK.op' [9, 10, 12, 14, 15, 16, 104] (t' := [(9, .sl 59 (List.map Send.av ((runA ((([] : List Act) ++ a) ++ b) h1).1)) false), (10, .sc (.bool t1)), (12, .sc (.bool ((runA a h1).2))), (14, .sc (.bool ((runA b v).2))), (15, .own 2 1000000), (16, .sc (.int .i64 ((i1 : Nat) : Int))), (104, .sc (.bool (!((x1.Port == x2.Port) && (x1.Head == x2.Head)))))]) (h' := [.box 43 [.arr .u64 12 v], .row 53 (List.map Act.av ((([] : List Act) ++ a) ++ b)) 1000000 false, .row 59 (List.map Send.av ((([] : List Send) ++ (runA a h1).1) ++ (runA b v).1)) 1000000 true]) (LSpec.eq' 9 (r := (!((x1.Port == x2.Port) && (x1.Head == x2.Head)))) (by kernel_rfl)) (by kernel_rfl) rfl (by kernel_rfl) rfl ?_
      refine DK.done (by kernel_rfl) (by kernel_rfl) ?_
      refine AR.cond (.tmp 104) (!((x1.Port == x2.Port) && (x1.Head == x2.Head))) (by kernel_rfl) (by kernel_rfl) (fun hb => ?ht24) (fun hb => ?hf24)
      case ht24 =>
        replace H := cond_t hb H
        refine AR.seg hG hm 2 [6] (k' := [.code [1, 1, 1, 1, 1, 1, 1, 1, 1, 0, 1, 0, 0, 1, 0, 0, 1, 0, 1], .blk 3, .code [1, 1, 1, 1, 1, 1, 1, 1, 1, 0, 1, 0, 0, 1, 1], .loop [1, 1, 1, 1, 1, 1, 1, 1, 1, 0, 1, 0], .blk 2, .code [1, 1, 1, 1, 1, 1, 1, 1, 1, 1]]) (t' := [(6, .sc (.bool false))]) (h' := [.box 43 [.arr .u64 12 v], .row 53 (List.map Act.av ((([] : List Act) ++ a) ++ b)) 1000000 false, .row 59 (List.map Send.av ((([] : List Send) ++ (runA a h1).1) ++ (runA b v).1)) 1000000 true]) (by kernel_rfl) ?_
        obtain rfl := Option.some.inj H
        obtain rfl := Jr _ rfl
        exact AR.ret0 (fn := Try.f8) hG Try.func8 (by kernel_rfl) hc0 (r0 := .sc (.bool false)) (by kernel_rfl) (WkV.refl _)
      case hf24 =>
        replace H := cond_f hb H
        refine AR.seg hG hm 3 [9, 10, 12, 14, 15, 16] (k' := [.loop [1, 1, 1, 1, 1, 1, 1, 1, 1, 0, 1, 0], .blk 2, .code [1, 1, 1, 1, 1, 1, 1, 1, 1, 1]]) (t' := [(9, .sl 59 (List.map Send.av ((runA ((([] : List Act) ++ a) ++ b) h1).1)) false), (10, .sc (.bool t1)), (12, .sc (.bool ((runA a h1).2))), (14, .sc (.bool ((runA b v).2))), (15, .own 2 1000000), (16, .sc (.int .i64 (IntKind.i64.wrap (((i1 : Nat) : Int) + 1))))]) (h' := [.box 43 [.arr .u64 12 v], .row 53 (List.map Act.av ((([] : List Act) ++ a) ++ b)) 1000000 false, .row 59 (List.map Send.av ((([] : List Send) ++ (runA a h1).1) ++ (runA b v).1)) 1000000 true]) (by kernel_rfl) ?_
        refine AR.keep [9, 10, 12, 14, 15, 16] (t' := [(9, .sl 59 (List.map Send.av ((runA ((([] : List Act) ++ a) ++ b) h1).1)) false), (10, .sc (.bool t1)), (12, .sc (.bool ((runA a h1).2))), (14, .sc (.bool ((runA b v).2))), (15, .own 2 1000000), (16, .sc (.int .i64 (IntKind.i64.wrap (((i1 : Nat) : Int) + 1))))]) (by kernel_rfl) ?_
        refine AR.loop_round ?_
        rw [hw]
        exact ih (i1 + 1) hd2 H
    case hf23 => exact absurd (hc.symm.trans hb) (by decide)

def podestalaw04_ActJoins_raw (a : List Act) (b : List Act) (h1 : List Int) : Option (Bool) :=
  (bif (((decide ((IntKind.i64.wrap ((((List.map Act.av a).length : Nat) : Int) + (((List.map Act.av b).length : Nat) : Int))) > 8)) || (!(podestaref04_Acts a))) || (!(podestaref04_Acts b))) then
    some true
  else
    (podestalaw04_ActJoins_l0s a h1).bind fun v =>
    fitO (([] : List Act).length + a.length) 32 (
    fitO ((([] : List Act) ++ a).length + b.length) 32 (
    fitO (([] : List Send).length + ((runA a h1).1).length) 104 (
    fitO ((([] : List Send) ++ (runA a h1).1).length + ((runA b v).1).length) 104 (
    (bif ((((List.map Send.av ((runA ((([] : List Act) ++ a) ++ b) h1).1)).length : Nat) : Int) != (((List.map Send.av ((([] : List Send) ++ (runA a h1).1) ++ (runA b v).1)).length : Nat) : Int)) then
      some false
    else
      loopO (podestalaw04_ActJoins_l1s a b h1 v ((runA ((([] : List Act) ++ a) ++ b) h1).2) ((runA ((([] : List Act) ++ a) ++ b) h1).1) 0) fun v1 =>
      some (v1.1 == (v1.2.1 || v1.2.2.1))))))))
theorem podestalaw04_ActJoins_walk (a : List Act) (b : List Act) (h1 : List Int) (f_a : Bool) (f_b : Bool) (r : Bool) (H : podestalaw04_ActJoins_raw a b h1 = some r) :
    ACalls Try.prog tab.S 8 [.sl 53 (List.map Act.av a) f_a, .sl 53 (List.map Act.av b) f_b, .arr .u64 12 h1] [] (.sc (.bool r)) [] := by
  have hG := tab_ok
  have hm := mixed
  refine ACalls.of_AR (G := tab) podestalaw04_ActJoins_F (fn := Try.f8) Try.func8 (by kernel_rfl) (by kernel_rfl) (by kernel_rfl) (Nat.le_of_ble_eq_true (by kernel_rfl)) ?_
  intro c0 hc0
  replace hc0 : c0.m.length = 0 := hc0
  rw [podestalaw04_ActJoins_raw] at H
  refine AR.seg hG hm 1 [0, 1, 2] (k' := [.code [0], .code [1]]) (t' := [(0, .sl 53 (List.map Act.av a) f_a), (1, .sl 53 (List.map Act.av b) f_b), (2, .arr .u64 12 h1)]) (h' := []) (by kernel_rfl) ?_
  refine AR.reg hm podestalaw04_ActJoins_k0 (by kernel_rfl) ?_
  refine DK.op' [0, 1, 5] (t' := [(0, .sl 53 (List.map Act.av a) f_a), (1, .sl 53 (List.map Act.av b) f_b), (5, .ep [.arr .u64 12 h1] 0 none)]) (h' := []) (LSpec.boxP (fs := [.arr .u64 12 h1]) (by kernel_rfl)) (by kernel_rfl) rfl (by kernel_rfl) rfl ?_
  refine DK.seg hG 1 [0, 1, 5] (t' := [(0, .sl 53 (List.map Act.av a) f_a), (1, .sl 53 (List.map Act.av b) f_b), (5, .ep [.arr .u64 12 h1] 0 none)]) (h' := []) (by kernel_rfl) rfl ?_
  refine DK.done (by kernel_rfl) (by kernel_rfl) ?_
  refine AR.seg hG hm 2 [0, 1, 5] (k' := [.code [1, 0, 0], .code [1, 0, 1], .code [1, 1]]) (t' := [(0, .sl 53 (List.map Act.av a) f_a), (1, .sl 53 (List.map Act.av b) f_b), (5, .ep [.arr .u64 12 h1] 0 none)]) (h' := []) (by kernel_rfl) ?_
  refine AR.reg hm podestalaw04_ActJoins_k1 (by kernel_rfl) ?_
  refine DK.seg hG 7 [0, 1, 5, 23] (t' := [(0, .sl 53 (List.map Act.av a) f_a), (1, .sl 53 (List.map Act.av b) f_b), (5, .ep [.arr .u64 12 h1] 0 none), (23, .sc (.bool (decide ((IntKind.i64.wrap ((((List.map Act.av a).length : Nat) : Int) + (((List.map Act.av b).length : Nat) : Int))) > 8))))]) (h' := []) (by kernel_rfl) rfl ?_
  refine DK.mux 23 (decide ((IntKind.i64.wrap ((((List.map Act.av a).length : Nat) : Int) + (((List.map Act.av b).length : Nat) : Int))) > 8)) (j := 11) (h' := []) (by kernel_rfl) (fun z => [(0, .sl 53 (List.map Act.av a) f_a), (1, .sl 53 (List.map Act.av b) f_b), (5, .ep [.arr .u64 12 h1] 0 none), (27, .sc (.bool (z || (!(podestaref04_Acts a)))))]) ?J1 (fun hb J => ?ht1) (fun hb J => ?hf1)
  case ht1 =>
    exact DK.seg hG 4 [0, 1, 5, 27] (by kernel_rfl) rfl J
  case hf1 =>
    refine DK.seg hG 1 [0, 1, 5, 23, 24] (t' := [(0, .sl 53 (List.map Act.av a) f_a), (1, .sl 53 (List.map Act.av b) f_b), (5, .ep [.arr .u64 12 h1] 0 none), (23, .sc (.bool false)), (24, .sl 53 (List.map Act.av a) f_a)]) (h' := []) (by kernel_rfl) rfl ?_
    refine DK.op' [0, 1, 5, 23, 25] (t' := [(0, .sl 53 (List.map Act.av a) f_a), (1, .sl 53 (List.map Act.av b) f_b), (5, .ep [.arr .u64 12 h1] 0 none), (23, .sc (.bool false)), (25, .sc (.bool (podestaref04_Acts a)))]) (h' := []) (LSpec.callP' (podestaref04_Acts_calls a f_a) (by kernel_rfl)) (by kernel_rfl) rfl (by kernel_rfl) rfl ?_
    exact DK.seg hG 2 [0, 1, 5, 27] (by kernel_rfl) rfl J
  refine DK.seg hG 1 [0, 1, 5, 28] (t' := [(0, .sl 53 (List.map Act.av a) f_a), (1, .sl 53 (List.map Act.av b) f_b), (5, .ep [.arr .u64 12 h1] 0 none), (28, .sc (.bool ((decide ((IntKind.i64.wrap ((((List.map Act.av a).length : Nat) : Int) + (((List.map Act.av b).length : Nat) : Int))) > 8)) || (!(podestaref04_Acts a)))))]) (h' := []) (by kernel_rfl) rfl ?_
  refine DK.mux 28 ((decide ((IntKind.i64.wrap ((((List.map Act.av a).length : Nat) : Int) + (((List.map Act.av b).length : Nat) : Int))) > 8)) || (!(podestaref04_Acts a))) (j := 16) (h' := []) (by kernel_rfl) (fun z => [(0, .sl 53 (List.map Act.av a) f_a), (1, .sl 53 (List.map Act.av b) f_b), (5, .ep [.arr .u64 12 h1] 0 none), (32, .sc (.bool (z || (!(podestaref04_Acts b)))))]) ?J2 (fun hb J => ?ht2) (fun hb J => ?hf2)
  case ht2 =>
    exact DK.seg hG 4 [0, 1, 5, 32] (by kernel_rfl) rfl J
  case hf2 =>
    refine DK.seg hG 1 [0, 1, 5, 28, 29] (t' := [(0, .sl 53 (List.map Act.av a) f_a), (1, .sl 53 (List.map Act.av b) f_b), (5, .ep [.arr .u64 12 h1] 0 none), (28, .sc (.bool false)), (29, .sl 53 (List.map Act.av b) f_b)]) (h' := []) (by kernel_rfl) rfl ?_
    refine DK.op' [0, 1, 5, 28, 30] (t' := [(0, .sl 53 (List.map Act.av a) f_a), (1, .sl 53 (List.map Act.av b) f_b), (5, .ep [.arr .u64 12 h1] 0 none), (28, .sc (.bool false)), (30, .sc (.bool (podestaref04_Acts b)))]) (h' := []) (LSpec.callP' (podestaref04_Acts_calls b f_b) (by kernel_rfl)) (by kernel_rfl) rfl (by kernel_rfl) rfl ?_
    exact DK.seg hG 2 [0, 1, 5, 32] (by kernel_rfl) rfl J
  refine DK.done (by kernel_rfl) (by kernel_rfl) ?_
  refine AR.cond (.tmp 32) (((decide ((IntKind.i64.wrap ((((List.map Act.av a).length : Nat) : Int) + (((List.map Act.av b).length : Nat) : Int))) > 8)) || (!(podestaref04_Acts a))) || (!(podestaref04_Acts b))) (by kernel_rfl) (by kernel_rfl) (fun hb => ?ht3) (fun hb => ?hf3)
  case ht3 =>
    replace H := cond_t hb H
    refine AR.seg hG hm 1 [] (k' := [.code [1, 0, 1, 0, 0], .code [1, 0, 1, 0, 1], .code [1, 1]]) (t' := []) (h' := []) (by kernel_rfl) ?_
    refine AR.reg hm podestalaw04_ActJoins_k2 (by kernel_rfl) ?_
    refine DK.op' [33] (t' := [(33, .sc (.bool true))]) (h' := []) (LSpec.callP' (podestalaw04_answers_ok) (by kernel_rfl)) (by kernel_rfl) rfl (by kernel_rfl) rfl ?_
    refine DK.seg hG 1 [6] (t' := [(6, .sc (.bool true))]) (h' := []) (by kernel_rfl) rfl ?_
    refine DK.done (by kernel_rfl) (by kernel_rfl) ?_
    obtain rfl := Option.some.inj H
    exact AR.ret0 (fn := Try.f8) hG Try.func8 (by kernel_rfl) hc0 (r0 := .sc (.bool true)) (by kernel_rfl) (WkV.refl _)
  case hf3 =>
    replace H := cond_f hb H
    refine AR.seg hG hm 7 [0, 1, 5, 7, 8] (k' := [.code [1, 1, 1, 0, 1, 0], .blk 0, .code [1, 1, 1, 1]]) (t' := [(0, .sl 53 (List.map Act.av a) f_a), (1, .sl 53 (List.map Act.av b) f_b), (5, .ep [.arr .u64 12 h1] 0 none), (7, .ptr 0 0 none), (8, .sc (.int .i64 0))]) (h' := [.box 43 [.arr .u64 12 h1]]) (by kernel_rfl) ?_
    obtain ⟨v, hv, H⟩ := Option.bind_eq_some_iff.1 H
    refine AR.into (by kernel_rfl) ?_
    refine podestalaw04_ActJoins_l0_walk a b h1 f_a f_b r c0 hc0 v ?_ a 0 rfl h1 hv
    refine AR.seg hG hm 1 [0, 1, 5, 7] (k' := [.code [1, 1, 1, 1, 0], .code [1, 1, 1, 1, 1]]) (t' := [(0, .sl 53 (List.map Act.av a) f_a), (1, .sl 53 (List.map Act.av b) f_b), (5, .ep [.arr .u64 12 h1] 0 none), (7, .ptr 0 0 none)]) (h' := [.box 43 [.arr .u64 12 v]]) (by kernel_rfl) ?_
    refine AR.reg hm podestalaw04_ActJoins_k5 (by kernel_rfl) ?_
    refine DK.seg hG 2 [0, 1, 5, 7, 59, 60] (t' := [(0, .sl 53 (List.map Act.av a) f_a), (1, .sl 53 (List.map Act.av b) f_b), (5, .ep [.arr .u64 12 h1] 0 none), (7, .ptr 0 0 none), (59, .sl 53 (List.map Act.av []) true), (60, .sl 53 (List.map Act.av a) f_a)]) (h' := [.box 43 [.arr .u64 12 v]]) (by kernel_rfl) rfl ?_
    obtain ⟨hfit, H⟩ := fitO_some H
    refine DK.op' [0, 1, 5, 7, 61] (t' := [(0, .sl 53 (List.map Act.av a) f_a), (1, .sl 53 (List.map Act.av b) f_b), (5, .ep [.arr .u64 12 h1] 0 none), (7, .ptr 0 0 none), (61, .own 1 1000000)]) (h' := [.box 43 [.arr .u64 12 v], .row 53 (List.map Act.av (([] : List Act) ++ a)) 1000000 true]) (LSpec.appendB hG Act.av ([] : List Act) a 53 32 rfl hfit (by kernel_rfl)) (by kernel_rfl) (by kernel_rfl) (by kernel_rfl) rfl ?_
    refine DK.seg hG 1 [0, 1, 5, 7, 61, 62] (t' := [(0, .sl 53 (List.map Act.av a) f_a), (1, .sl 53 (List.map Act.av b) f_b), (5, .ep [.arr .u64 12 h1] 0 none), (7, .ptr 0 0 none), (61, .own 1 1000000), (62, .sl 53 (List.map Act.av b) f_b)]) (h' := [.box 43 [.arr .u64 12 v], .row 53 (List.map Act.av (([] : List Act) ++ a)) 1000000 true]) (by kernel_rfl) rfl ?_
    obtain ⟨hfit, H⟩ := fitO_some H
    refine DK.op' [0, 1, 5, 7, 63] (t' := [(0, .sl 53 (List.map Act.av a) f_a), (1, .sl 53 (List.map Act.av b) f_b), (5, .ep [.arr .u64 12 h1] 0 none), (7, .ptr 0 0 none), (63, .own 1 1000001)]) (h' := [.box 43 [.arr .u64 12 v], .row 53 (List.map Act.av ((([] : List Act) ++ a) ++ b)) 1000001 true]) (LSpec.append' hG Act.av (([] : List Act) ++ a) b 1 1000000 53 32 hfit (by kernel_rfl)) (by kernel_rfl) (by kernel_rfl) (by kernel_rfl) rfl ?_
    refine DK.seg hG 1 [0, 1, 5, 7, 63, 64] (t' := [(0, .sl 53 (List.map Act.av a) f_a), (1, .sl 53 (List.map Act.av b) f_b), (5, .ep [.arr .u64 12 h1] 0 none), (7, .ptr 0 0 none), (63, .own 1 1000001), (64, .arr .u64 12 h1)]) (h' := [.box 43 [.arr .u64 12 v], .row 53 (List.map Act.av ((([] : List Act) ++ a) ++ b)) 1000001 true]) (by kernel_rfl) rfl ?_
    refine DK.op' [0, 1, 5, 7, 65] (t' := [(0, .sl 53 (List.map Act.av a) f_a), (1, .sl 53 (List.map Act.av b) f_b), (5, .ep [.arr .u64 12 h1] 0 none), (7, .ptr 0 0 none), (65, .tup [.sl 59 (List.map Send.av ((runA ((([] : List Act) ++ a) ++ b) h1).1)) false, .sc (.bool ((runA ((([] : List Act) ++ a) ++ b) h1).2))])]) (h' := [.box 43 [.arr .u64 12 v], .row 53 (List.map Act.av ((([] : List Act) ++ a) ++ b)) 1000001 false]) (LSpec.callC' [1] (act_Run_ok ((([] : List Act) ++ a) ++ b) h1 false) (by kernel_rfl) (by kernel_rfl)) (by kernel_rfl) (by kernel_rfl) (by kernel_rfl) rfl ?_
    refine DK.seg hG 5 [0, 1, 5, 7, 9, 10] (t' := [(0, .sl 53 (List.map Act.av a) f_a), (1, .sl 53 (List.map Act.av b) f_b), (5, .ep [.arr .u64 12 h1] 0 none), (7, .ptr 0 0 none), (9, .sl 59 (List.map Send.av ((runA ((([] : List Act) ++ a) ++ b) h1).1)) false), (10, .sc (.bool ((runA ((([] : List Act) ++ a) ++ b) h1).2)))]) (h' := [.box 43 [.arr .u64 12 v], .row 53 (List.map Act.av ((([] : List Act) ++ a) ++ b)) 1000001 false]) (by kernel_rfl) rfl ?_
    refine DK.done (by kernel_rfl) (by kernel_rfl) ?_
    refine AR.seg hG hm 1 [0, 1, 5, 7, 9, 10] (k' := [.code [1, 1, 1, 1, 1, 0], .code [1, 1, 1, 1, 1, 1]]) (t' := [(0, .sl 53 (List.map Act.av a) f_a), (1, .sl 53 (List.map Act.av b) f_b), (5, .ep [.arr .u64 12 h1] 0 none), (7, .ptr 0 0 none), (9, .sl 59 (List.map Send.av ((runA ((([] : List Act) ++ a) ++ b) h1).1)) false), (10, .sc (.bool ((runA ((([] : List Act) ++ a) ++ b) h1).2)))]) (h' := [.box 43 [.arr .u64 12 v], .row 53 (List.map Act.av ((([] : List Act) ++ a) ++ b)) 1000001 false]) (by kernel_rfl) ?_
    refine AR.reg hm podestalaw04_ActJoins_k6 (by kernel_rfl) ?_
    refine DK.seg hG 2 [1, 7, 9, 10, 69, 70] (t' := [(1, .sl 53 (List.map Act.av b) f_b), (7, .ptr 0 0 none), (9, .sl 59 (List.map Send.av ((runA ((([] : List Act) ++ a) ++ b) h1).1)) false), (10, .sc (.bool ((runA ((([] : List Act) ++ a) ++ b) h1).2))), (69, .sl 53 (List.map Act.av a) f_a), (70, .arr .u64 12 h1)]) (h' := [.box 43 [.arr .u64 12 v], .row 53 (List.map Act.av ((([] : List Act) ++ a) ++ b)) 1000001 false]) (by kernel_rfl) rfl ?_
    refine DK.op' [1, 7, 9, 10, 71] (t' := [(1, .sl 53 (List.map Act.av b) f_b), (7, .ptr 0 0 none), (9, .sl 59 (List.map Send.av ((runA ((([] : List Act) ++ a) ++ b) h1).1)) false), (10, .sc (.bool ((runA ((([] : List Act) ++ a) ++ b) h1).2))), (71, .tup [.sl 59 (List.map Send.av ((runA a h1).1)) false, .sc (.bool ((runA a h1).2))])]) (h' := [.box 43 [.arr .u64 12 v], .row 53 (List.map Act.av ((([] : List Act) ++ a) ++ b)) 1000001 false]) (LSpec.callP' (act_Run_ok a h1 f_a) (by kernel_rfl)) (by kernel_rfl) rfl (by kernel_rfl) rfl ?_
    refine DK.seg hG 5 [1, 7, 9, 10, 11, 12] (t' := [(1, .sl 53 (List.map Act.av b) f_b), (7, .ptr 0 0 none), (9, .sl 59 (List.map Send.av ((runA ((([] : List Act) ++ a) ++ b) h1).1)) false), (10, .sc (.bool ((runA ((([] : List Act) ++ a) ++ b) h1).2))), (11, .sl 59 (List.map Send.av ((runA a h1).1)) false), (12, .sc (.bool ((runA a h1).2)))]) (h' := [.box 43 [.arr .u64 12 v], .row 53 (List.map Act.av ((([] : List Act) ++ a) ++ b)) 1000001 false]) (by kernel_rfl) rfl ?_
    refine DK.done (by kernel_rfl) (by kernel_rfl) ?_
    refine AR.seg hG hm 1 [1, 7, 9, 10, 11, 12] (k' := [.code [1, 1, 1, 1, 1, 1, 0], .code [1, 1, 1, 1, 1, 1, 1]]) (t' := [(1, .sl 53 (List.map Act.av b) f_b), (7, .ptr 0 0 none), (9, .sl 59 (List.map Send.av ((runA ((([] : List Act) ++ a) ++ b) h1).1)) false), (10, .sc (.bool ((runA ((([] : List Act) ++ a) ++ b) h1).2))), (11, .sl 59 (List.map Send.av ((runA a h1).1)) false), (12, .sc (.bool ((runA a h1).2)))]) (h' := [.box 43 [.arr .u64 12 v], .row 53 (List.map Act.av ((([] : List Act) ++ a) ++ b)) 1000001 false]) (by kernel_rfl) ?_
    refine AR.reg hm podestalaw04_ActJoins_k7 (by kernel_rfl) ?_
    refine DK.seg hG 2 [9, 10, 11, 12, 75, 76] (t' := [(9, .sl 59 (List.map Send.av ((runA ((([] : List Act) ++ a) ++ b) h1).1)) false), (10, .sc (.bool ((runA ((([] : List Act) ++ a) ++ b) h1).2))), (11, .sl 59 (List.map Send.av ((runA a h1).1)) false), (12, .sc (.bool ((runA a h1).2))), (75, .sl 53 (List.map Act.av b) f_b), (76, .arr .u64 12 v)]) (h' := [.box 43 [.arr .u64 12 v], .row 53 (List.map Act.av ((([] : List Act) ++ a) ++ b)) 1000001 false]) (by kernel_rfl) rfl ?_
    refine DK.op' [9, 10, 11, 12, 77] (t' := [(9, .sl 59 (List.map Send.av ((runA ((([] : List Act) ++ a) ++ b) h1).1)) false), (10, .sc (.bool ((runA ((([] : List Act) ++ a) ++ b) h1).2))), (11, .sl 59 (List.map Send.av ((runA a h1).1)) false), (12, .sc (.bool ((runA a h1).2))), (77, .tup [.sl 59 (List.map Send.av ((runA b v).1)) false, .sc (.bool ((runA b v).2))])]) (h' := [.box 43 [.arr .u64 12 v], .row 53 (List.map Act.av ((([] : List Act) ++ a) ++ b)) 1000001 false]) (LSpec.callP' (act_Run_ok b v f_b) (by kernel_rfl)) (by kernel_rfl) rfl (by kernel_rfl) rfl ?_
    refine DK.seg hG 5 [9, 10, 11, 12, 13, 14] (t' := [(9, .sl 59 (List.map Send.av ((runA ((([] : List Act) ++ a) ++ b) h1).1)) false), (10, .sc (.bool ((runA ((([] : List Act) ++ a) ++ b) h1).2))), (11, .sl 59 (List.map Send.av ((runA a h1).1)) false), (12, .sc (.bool ((runA a h1).2))), (13, .sl 59 (List.map Send.av ((runA b v).1)) false), (14, .sc (.bool ((runA b v).2)))]) (h' := [.box 43 [.arr .u64 12 v], .row 53 (List.map Act.av ((([] : List Act) ++ a) ++ b)) 1000001 false]) (by kernel_rfl) rfl ?_
    refine DK.done (by kernel_rfl) (by kernel_rfl) ?_
    refine AR.seg hG hm 1 [9, 10, 11, 12, 13, 14] (k' := [.code [1, 1, 1, 1, 1, 1, 1, 0], .code [1, 1, 1, 1, 1, 1, 1, 1]]) (t' := [(9, .sl 59 (List.map Send.av ((runA ((([] : List Act) ++ a) ++ b) h1).1)) false), (10, .sc (.bool ((runA ((([] : List Act) ++ a) ++ b) h1).2))), (11, .sl 59 (List.map Send.av ((runA a h1).1)) false), (12, .sc (.bool ((runA a h1).2))), (13, .sl 59 (List.map Send.av ((runA b v).1)) false), (14, .sc (.bool ((runA b v).2)))]) (h' := [.box 43 [.arr .u64 12 v], .row 53 (List.map Act.av ((([] : List Act) ++ a) ++ b)) 1000001 false]) (by kernel_rfl) ?_
    refine AR.reg hm podestalaw04_ActJoins_k8 (by kernel_rfl) ?_
    refine DK.seg hG 2 [9, 10, 12, 13, 14, 80, 81] (t' := [(9, .sl 59 (List.map Send.av ((runA ((([] : List Act) ++ a) ++ b) h1).1)) false), (10, .sc (.bool ((runA ((([] : List Act) ++ a) ++ b) h1).2))), (12, .sc (.bool ((runA a h1).2))), (13, .sl 59 (List.map Send.av ((runA b v).1)) false), (14, .sc (.bool ((runA b v).2))), (80, .sl 59 (List.map Send.av []) true), (81, .sl 59 (List.map Send.av ((runA a h1).1)) false)]) (h' := [.box 43 [.arr .u64 12 v], .row 53 (List.map Act.av ((([] : List Act) ++ a) ++ b)) 1000001 false]) (by kernel_rfl) rfl ?_
    obtain ⟨hfit, H⟩ := fitO_some H
    refine DK.op' [9, 10, 12, 13, 14, 82] (t' := [(9, .sl 59 (List.map Send.av ((runA ((([] : List Act) ++ a) ++ b) h1).1)) false), (10, .sc (.bool ((runA ((([] : List Act) ++ a) ++ b) h1).2))), (12, .sc (.bool ((runA a h1).2))), (13, .sl 59 (List.map Send.av ((runA b v).1)) false), (14, .sc (.bool ((runA b v).2))), (82, .own 2 1000000)]) (h' := [.box 43 [.arr .u64 12 v], .row 53 (List.map Act.av ((([] : List Act) ++ a) ++ b)) 1000001 false, .row 59 (List.map Send.av (([] : List Send) ++ (runA a h1).1)) 1000000 true]) (LSpec.appendB hG Send.av ([] : List Send) ((runA a h1).1) 59 104 rfl hfit (by kernel_rfl)) (by kernel_rfl) (by kernel_rfl) (by kernel_rfl) rfl ?_
    refine DK.seg hG 1 [9, 10, 12, 14, 82, 83] (t' := [(9, .sl 59 (List.map Send.av ((runA ((([] : List Act) ++ a) ++ b) h1).1)) false), (10, .sc (.bool ((runA ((([] : List Act) ++ a) ++ b) h1).2))), (12, .sc (.bool ((runA a h1).2))), (14, .sc (.bool ((runA b v).2))), (82, .own 2 1000000), (83, .sl 59 (List.map Send.av ((runA b v).1)) false)]) (h' := [.box 43 [.arr .u64 12 v], .row 53 (List.map Act.av ((([] : List Act) ++ a) ++ b)) 1000001 false, .row 59 (List.map Send.av (([] : List Send) ++ (runA a h1).1)) 1000000 true]) (by kernel_rfl) rfl ?_
    obtain ⟨hfit, H⟩ := fitO_some H
    refine DK.op' [9, 10, 12, 14, 84] (t' := [(9, .sl 59 (List.map Send.av ((runA ((([] : List Act) ++ a) ++ b) h1).1)) false), (10, .sc (.bool ((runA ((([] : List Act) ++ a) ++ b) h1).2))), (12, .sc (.bool ((runA a h1).2))), (14, .sc (.bool ((runA b v).2))), (84, .own 2 1000001)]) (h' := [.box 43 [.arr .u64 12 v], .row 53 (List.map Act.av ((([] : List Act) ++ a) ++ b)) 1000001 false, .row 59 (List.map Send.av ((([] : List Send) ++ (runA a h1).1) ++ (runA b v).1)) 1000001 true]) (LSpec.append' hG Send.av (([] : List Send) ++ (runA a h1).1) ((runA b v).1) 2 1000000 59 104 hfit (by kernel_rfl)) (by kernel_rfl) (by kernel_rfl) (by kernel_rfl) rfl ?_
    refine DK.seg hG 1 [9, 10, 12, 14, 15] (t' := [(9, .sl 59 (List.map Send.av ((runA ((([] : List Act) ++ a) ++ b) h1).1)) false), (10, .sc (.bool ((runA ((([] : List Act) ++ a) ++ b) h1).2))), (12, .sc (.bool ((runA a h1).2))), (14, .sc (.bool ((runA b v).2))), (15, .own 2 1000001)]) (h' := [.box 43 [.arr .u64 12 v], .row 53 (List.map Act.av ((([] : List Act) ++ a) ++ b)) 1000001 false, .row 59 (List.map Send.av ((([] : List Send) ++ (runA a h1).1) ++ (runA b v).1)) 1000001 true]) (by kernel_rfl) rfl ?_
    refine DK.done (by kernel_rfl) (by kernel_rfl) ?_
    refine AR.seg hG hm 3 [9, 10, 12, 14, 15, 89] (k' := [.code [1, 1, 1, 1, 1, 1, 1, 1, 0, 1], .code [1, 1, 1, 1, 1, 1, 1, 1, 1]]) (t' := [(9, .sl 59 (List.map Send.av ((runA ((([] : List Act) ++ a) ++ b) h1).1)) false), (10, .sc (.bool ((runA ((([] : List Act) ++ a) ++ b) h1).2))), (12, .sc (.bool ((runA a h1).2))), (14, .sc (.bool ((runA b v).2))), (15, .own 2 1000001), (89, .sc (.bool ((((List.map Send.av ((runA ((([] : List Act) ++ a) ++ b) h1).1)).length : Nat) : Int) != (((List.map Send.av ((([] : List Send) ++ (runA a h1).1) ++ (runA b v).1)).length : Nat) : Int))))]) (h' := [.box 43 [.arr .u64 12 v], .row 53 (List.map Act.av ((([] : List Act) ++ a) ++ b)) 1000001 false, .row 59 (List.map Send.av ((([] : List Send) ++ (runA a h1).1) ++ (runA b v).1)) 1000001 true]) (by kernel_rfl) ?_
    refine AR.cond (.tmp 89) ((((List.map Send.av ((runA ((([] : List Act) ++ a) ++ b) h1).1)).length : Nat) : Int) != (((List.map Send.av ((([] : List Send) ++ (runA a h1).1) ++ (runA b v).1)).length : Nat) : Int)) (by kernel_rfl) (by kernel_rfl) (fun hb => ?ht13) (fun hb => ?hf13)
    case ht13 =>
      replace H := cond_t hb H
      refine AR.seg hG hm 2 [6] (k' := [.code [1, 1, 1, 1, 1, 1, 1, 1, 0, 1, 0, 1], .code [1, 1, 1, 1, 1, 1, 1, 1, 1]]) (t' := [(6, .sc (.bool false))]) (h' := [.box 43 [.arr .u64 12 v], .row 53 (List.map Act.av ((([] : List Act) ++ a) ++ b)) 1000001 false, .row 59 (List.map Send.av ((([] : List Send) ++ (runA a h1).1) ++ (runA b v).1)) 1000001 true]) (by kernel_rfl) ?_
      obtain rfl := Option.some.inj H
      exact AR.ret0 (fn := Try.f8) hG Try.func8 (by kernel_rfl) hc0 (r0 := .sc (.bool false)) (by kernel_rfl) (WkV.refl _)
    case hf13 =>
      replace H := cond_f hb H
      refine AR.seg hG hm 5 [9, 10, 12, 14, 15, 16] (k' := [.code [1, 1, 1, 1, 1, 1, 1, 1, 1, 0, 1, 0], .blk 2, .code [1, 1, 1, 1, 1, 1, 1, 1, 1, 1]]) (t' := [(9, .sl 59 (List.map Send.av ((runA ((([] : List Act) ++ a) ++ b) h1).1)) false), (10, .sc (.bool ((runA ((([] : List Act) ++ a) ++ b) h1).2))), (12, .sc (.bool ((runA a h1).2))), (14, .sc (.bool ((runA b v).2))), (15, .own 2 1000001), (16, .sc (.int .i64 0))]) (h' := [.box 43 [.arr .u64 12 v], .row 53 (List.map Act.av ((([] : List Act) ++ a) ++ b)) 1000001 false, .row 59 (List.map Send.av ((([] : List Send) ++ (runA a h1).1) ++ (runA b v).1)) 1000001 true]) (by kernel_rfl) ?_
      refine AR.norm' 1 1000000 hc0 (t' := [(9, .sl 59 (List.map Send.av ((runA ((([] : List Act) ++ a) ++ b) h1).1)) false), (10, .sc (.bool ((runA ((([] : List Act) ++ a) ++ b) h1).2))), (12, .sc (.bool ((runA a h1).2))), (14, .sc (.bool ((runA b v).2))), (15, .own 2 1000001), (16, .sc (.int .i64 0))]) (h' := [.box 43 [.arr .u64 12 v], .row 53 (List.map Act.av ((([] : List Act) ++ a) ++ b)) 1000000 false, .row 59 (List.map Send.av ((([] : List Send) ++ (runA a h1).1) ++ (runA b v).1)) 1000001 true]) (by kernel_rfl) ?_
      refine AR.norm' 2 1000000 hc0 (t' := [(9, .sl 59 (List.map Send.av ((runA ((([] : List Act) ++ a) ++ b) h1).1)) false), (10, .sc (.bool ((runA ((([] : List Act) ++ a) ++ b) h1).2))), (12, .sc (.bool ((runA a h1).2))), (14, .sc (.bool ((runA b v).2))), (15, .own 2 1000000), (16, .sc (.int .i64 0))]) (h' := [.box 43 [.arr .u64 12 v], .row 53 (List.map Act.av ((([] : List Act) ++ a) ++ b)) 1000000 false, .row 59 (List.map Send.av ((([] : List Send) ++ (runA a h1).1) ++ (runA b v).1)) 1000000 true]) (by kernel_rfl) ?_
      rcases loopO_some H with ⟨v1, hv, H⟩ | hv
      case inr =>
        refine AR.into (by kernel_rfl) ?_
        exact podestalaw04_ActJoins_l1_walk a b h1 v ((runA ((([] : List Act) ++ a) ++ b) h1).2) f_a f_b _ c0 hc0 (.inr _) (fun _ e => by cases e) (fun _ e => (Sum.inr.inj e).symm) ((runA ((([] : List Act) ++ a) ++ b) h1).1) 0 rfl hv
      refine AR.into (by kernel_rfl) ?_
      refine podestalaw04_ActJoins_l1_walk a b h1 v ((runA ((([] : List Act) ++ a) ++ b) h1).2) f_a f_b r c0 hc0 (.inl v1) (fun w e => ?_) (fun _ e => by cases e) ((runA ((([] : List Act) ++ a) ++ b) h1).1) 0 rfl hv
      have e := Sum.inl.inj e
      subst e
      refine AR.seg hG hm 1 [10, 12, 14] (k' := [.code [1, 1, 1, 1, 1, 1, 1, 1, 1, 1, 0], .code [1, 1, 1, 1, 1, 1, 1, 1, 1, 1, 1]]) (t' := [(10, .sc (.bool v1.1)), (12, .sc (.bool v1.2.1)), (14, .sc (.bool v1.2.2.1))]) (h' := [.box 43 [.arr .u64 12 v], .row 53 (List.map Act.av ((([] : List Act) ++ a) ++ b)) 1000000 false, .row 59 (List.map Send.av v1.2.2.2) 1000000 true]) (by kernel_rfl) ?_
      refine AR.reg hm podestalaw04_ActJoins_k10 (by kernel_rfl) ?_
      refine DK.op' [10, 12, 14, 105] (t' := [(10, .sc (.bool v1.1)), (12, .sc (.bool v1.2.1)), (14, .sc (.bool v1.2.2.1)), (105, .sc (.bool true))]) (h' := [.box 43 [.arr .u64 12 v], .row 53 (List.map Act.av ((([] : List Act) ++ a) ++ b)) 1000000 false, .row 59 (List.map Send.av v1.2.2.2) 1000000 true]) (LSpec.callP' (podestalaw04_answers_ok) (by kernel_rfl)) (by kernel_rfl) rfl (by kernel_rfl) rfl ?_
      refine DK.seg hG 4 [14, 106, 107, 109] (t' := [(14, .sc (.bool v1.2.2.1)), (106, .sc (.bool true)), (107, .sc (.bool v1.1)), (109, .sc (.bool v1.2.1))]) (h' := [.box 43 [.arr .u64 12 v], .row 53 (List.map Act.av ((([] : List Act) ++ a) ++ b)) 1000000 false, .row 59 (List.map Send.av v1.2.2.2) 1000000 true]) (by kernel_rfl) rfl ?_
      refine DK.mux 109 v1.2.1 (j := 7) (h' := [.box 43 [.arr .u64 12 v], .row 53 (List.map Act.av ((([] : List Act) ++ a) ++ b)) 1000000 false, .row 59 (List.map Send.av v1.2.2.2) 1000000 true]) (by kernel_rfl) (fun z => [(106, .sc (.bool true)), (107, .sc (.bool v1.1)), (111, .sc (.bool (z || v1.2.2.1)))]) ?J25 (fun hb J => ?ht25) (fun hb J => ?hf25)
      case ht25 =>
        exact DK.seg hG 2 [106, 107, 111] (by kernel_rfl) rfl J
      case hf25 =>
        exact DK.seg hG 2 [106, 107, 111] (by kernel_rfl) rfl J
      refine DK.seg hG 3 [6] (t' := [(6, .sc (.bool (v1.1 == (v1.2.1 || v1.2.2.1))))]) (h' := [.box 43 [.arr .u64 12 v], .row 53 (List.map Act.av ((([] : List Act) ++ a) ++ b)) 1000000 false, .row 59 (List.map Send.av v1.2.2.2) 1000000 true]) (by kernel_rfl) rfl ?_
      refine DK.done (by kernel_rfl) (by kernel_rfl) ?_
      obtain rfl := Option.some.inj H
      exact AR.ret0 (fn := Try.f8) hG Try.func8 (by kernel_rfl) hc0 (r0 := .sc (.bool (v1.1 == (v1.2.1 || v1.2.2.1)))) (by kernel_rfl) (WkV.refl _)

end Go.Proofs.Ytjchejmakdkioab

set_option linter.unusedVariables false
set_option linter.unusedSimpArgs false
set_option maxRecDepth 100000
set_option maxHeartbeats 4000000
namespace Go.Proofs.Ytjchejmakdkioab
open Go.Sh
theorem Same_loop (a b : List Act) (h : List Int) (he : (runA a h).1.length = (runA b h).1.length) (hl : (runA a h).1.length ≤ 100) : ∀ (n i : Nat) (s : Bool), i + n = (runA a h).1.length → ∃ v, podestalaw04_ActSame_l0 a b h (n + 1) s ((i : Nat) : Int) = some v ∧ (a = b → s = true → v = true)
  | 0, i, s, e => by
      refine ⟨s, ?_, fun _ hs => hs⟩
      rw [podestalaw04_ActSame_l0, List.length_map, decide_eq_false (by omega)]
      rfl
  | n + 1, i, s, e => by
      rw [podestalaw04_ActSame_l0, List.length_map, decide_eq_true (by omega), Bool.true_and]
      cases s
      · exact ⟨false, rfl, fun _ hs => by cases hs⟩
      · simp only [cond_true]
        rw [ixO_lt (by omega), ixO_lt (by omega), Option.bind_some, Option.bind_some, wrap_succ (by omega)]
        obtain ⟨v, h1, h2⟩ := Same_loop a b h he hl n (i + 1) (((runA a h).1[i].Port == (runA b h).1[i].Port) && ((runA a h).1[i].Head == (runA b h).1[i].Head)) (by omega)
        refine ⟨v, h1, fun hab _ => h2 hab ?_⟩
        subst hab
        simp
theorem runF_len : ∀ (l : List Act) (s : Bool × List Int × List Send), (l.foldl stepA_ s).2.2.length ≤ s.2.2.length + l.length
  | [], s => Nat.le_add_right _ _
  | x :: l, s => by
      rw [List.foldl_cons]
      refine Nat.le_trans (runF_len l _) ?_
      unfold stepA_
      rw [List.length_cons]
      split
      · rw [List.length_append, List.length_singleton]; omega
      · split
        · show s.2.2.length + _ ≤ _; omega
        · show s.2.2.length + _ ≤ _; omega
theorem runA_len (l : List Act) (h : List Int) : (runA l h).1.length ≤ 8 := by
  unfold runA
  split
  · rename_i hs
    have h1 := runF_len l (false, h, [])
    have h2 := (act_Sound_all hs).2
    unfold runF
    simp only [List.length_nil, Nat.zero_add] at h1
    show (l.foldl stepA_ (false, h, [])).2.2.length ≤ 8
    omega
  · simp
theorem ActSame_true (a b : List Act) (h : List Int) (wa : ∀ y ∈ a, Act.wf y) (wb : ∀ y ∈ b, Act.wf y) (wh : arrW .u64 12 h) (la : a.length * 32 ≤ 140737488355328) (lb : b.length * 32 ≤ 140737488355328) : ∃ q0, podestalaw04_ActSame_raw q0 a b h = some true := by
  refine ⟨(runA a h).1.length + 1, ?_⟩
  rw [podestalaw04_ActSame_raw]
  cases ((decide ((((List.map Act.av a).length : Nat) : Int) > 20)) || (decide ((((List.map Act.av b).length : Nat) : Int) > 20)))
  · simp only [cond_false]
    have hfin : ∀ v : Bool, (a = b → v = true) → ((((act_Same a b) == (a == b)) && (act_Same a a)) && ((!(act_Same a b)) || v)) = true := by
      intro v hv
      unfold act_Same
      simp only [beq_self_eq_true, Bool.true_and]
      by_cases hab : a = b
      · rw [hv hab, Bool.or_true]
      · rw [beq_eq_false_iff_ne.2 hab]
        rfl
    by_cases he : (runA a h).1.length = (runA b h).1.length
    · obtain ⟨v, h1, h2⟩ := Same_loop a b h he (Nat.le_trans (runA_len a h) (by omega)) (runA a h).1.length 0 (((((List.map Send.av ((runA a h).1)).length : Nat) : Int) == (((List.map Send.av ((runA b h).1)).length : Nat) : Int)) && ((runA a h).2 == (runA b h).2)) (by omega)
      rw [zero_nat, h1, Option.bind_some, hfin v fun hab => h2 hab ?_]
      subst hab
      simp
    · have e : ((((List.map Send.av ((runA a h).1)).length : Nat) : Int) == (((List.map Send.av ((runA b h).1)).length : Nat) : Int)) = false := by
        rw [List.length_map, List.length_map, beq_eq_false_iff_ne]
        omega
      rw [e, Bool.false_and, podestalaw04_ActSame_l0, Bool.and_false]
      simp only [cond_false, Option.bind_some]
      rw [hfin false fun hab => absurd (by rw [hab]) he]
  · rfl
/-! ### ActJoins -/
theorem Joins_l0s_eq : ∀ (l : List Act) (t : Bool) (g : List Int) (out : List Send), (∀ x ∈ l, actOk x = true) → podestalaw04_ActJoins_l0s l g = some (l.foldl stepA_ (t, g, out)).2.1
  | [], t, g, out, _ => rfl
  | x :: l, t, g, out, hs => by
      have h0 := hs x (by simp)
      have hs' : ∀ y ∈ l, actOk y = true := fun y hy => hs y (by simp [hy])
      rw [podestalaw04_ActJoins_l0s, List.foldl_cons]
      unfold stepA_
      cases h2 : (x.Kind == 2)
      · simp only [cond_false]
        cases h1 : (x.Kind == 1)
        · simp only [Bool.false_eq_true, if_false]
          exact Joins_l0s_eq l _ g out hs'
        · simp only [if_true]
          exact Joins_l0s_eq l t g _ hs'
      · have h1 : (x.Kind == 1) = false := by
          rw [beq_iff_eq] at h2
          rw [h2]; rfl
        simp only [cond_true, h1, Bool.false_eq_true, if_false, if_true]
        rw [reqO_eq (ok_field h0 h2)]
        exact Joins_l0s_eq l t _ out hs'
theorem run_shift : ∀ (l : List Act) (t : Bool) (g : List Int) (out : List Send), l.foldl stepA_ (t, g, out) = (t || (l.foldl stepA_ (false, g, [])).1, (l.foldl stepA_ (false, g, [])).2.1, out ++ (l.foldl stepA_ (false, g, [])).2.2)
  | [], t, g, out => by simp
  | x :: l, t, g, out => by
      rw [List.foldl_cons, List.foldl_cons]
      rw [run_shift l (stepA_ (t, g, out) x).1 (stepA_ (t, g, out) x).2.1 (stepA_ (t, g, out) x).2.2, run_shift l (stepA_ (false, g, []) x).1 (stepA_ (false, g, []) x).2.1 (stepA_ (false, g, []) x).2.2]
      unfold stepA_
      split
      · simp
      · split
        · simp
        · simp [Bool.or_assoc]
theorem ActJoins_true (a b : List Act) (h : List Int) (wa : ∀ y ∈ a, Act.wf y) (wb : ∀ y ∈ b, Act.wf y) (wh : arrW .u64 12 h) (la : a.length * 32 ≤ 140737488355328) (lb : b.length * 32 ≤ 140737488355328) : podestalaw04_ActJoins_raw a b h = some true := by
  rw [podestalaw04_ActJoins_raw, refActs_eq, refActs_eq]
  cases ha : ActsOk a
  · simp
  · cases hb : ActsOk b
    · simp
    · rw [List.length_map, List.length_map, wrap_eq (by omega) (by omega)]
      by_cases h8 : a.length + b.length > 8
      · rw [decide_eq_true (by omega)]; rfl
      · rw [decide_eq_false (by omega)]
        simp only [Bool.not_true, Bool.or_false, cond_false]
        have ha' := ha
        have hb' := hb
        unfold ActsOk at ha' hb'
        rw [Bool.and_eq_true, List.all_eq_true] at ha' hb'
        have hab : ActsOk (a ++ b) = true := by
          unfold ActsOk
          rw [Bool.and_eq_true, List.all_eq_true]
          refine ⟨fun x hx => ?_, decide_eq_true (by rw [List.length_append]; omega)⟩
          rcases List.mem_append.1 hx with hx | hx
          · exact ha'.1 x hx
          · exact hb'.1 x hx
        have wab : ∀ y ∈ a ++ b, Act.wf y := by
          intro x hx
          rcases List.mem_append.1 hx with hx | hx
          · exact wa x hx
          · exact wb x hx
        rw [Joins_l0s_eq a false h [] ha'.1, Option.bind_some]
        have e1 := runA_len a h
        have e2 := runA_len b (a.foldl stepA_ (false, h, [])).2.1
        simp only [nil_app, List.length_nil]
        rw [fitO_eq (by omega), fitO_eq (by omega), fitO_eq (by omega), fitO_eq (by omega)]
        have hx : runA (a ++ b) h = ((runA a h).1 ++ (runA b (a.foldl stepA_ (false, h, [])).2.1).1, (runA a h).2 || (runA b (a.foldl stepA_ (false, h, [])).2.1).2) := by
          unfold runA
          rw [act_Sound_eq (Act.wf_val wab), act_Sound_eq (Act.wf_val wa), act_Sound_eq (Act.wf_val wb), ha, hb, hab]
          simp only [if_true]
          unfold runF
          rw [List.foldl_append]
          have := run_shift b (a.foldl stepA_ (false, h, [])).1 (a.foldl stepA_ (false, h, [])).2.1 (a.foldl stepA_ (false, h, [])).2.2
          have e3 : (a.foldl stepA_ (false, h, [])) = ((a.foldl stepA_ (false, h, [])).1, (a.foldl stepA_ (false, h, [])).2.1, (a.foldl stepA_ (false, h, [])).2.2) := rfl
          rw [← e3] at this
          rw [this]
        rw [hx]
        simp only [bne_self_eq_false, cond_false]
        rw [cmp_loop (v := false) (podestalaw04_ActJoins_l1s a b h (a.foldl stepA_ (false, h, [])).2.1 ((runA a h).2 || (runA b (a.foldl stepA_ (false, h, [])).2.1).2)) ((runA a h).1 ++ (runA b (a.foldl stepA_ (false, h, [])).2.1).1) (fun x y => (x.Port == y.Port) && (x.Head == y.Head)) (fun _ => rfl) (fun _ _ _ => rfl) _ 0 rfl, List.drop_zero, zipAll_refl (fun x _ => by simp)]
        simp [loopO]

end Go.Proofs.Ytjchejmakdkioab

import Derived.Test.YtjchejmakdkioabM2ActRuns
set_option linter.unusedVariables false
set_option linter.unusedSimpArgs false
set_option maxRecDepth 100000
set_option maxHeartbeats 4000000
namespace Go.Proofs.Ytjchejmakdkioab
open Go.Sh
/-! ### podestalaw04.ActRuns: function 7 -/
noncomputable def podestalaw04_ActRuns_F : Go.Sh.Fn := ⟨7, bodyOf Try.f7, 77⟩
def podestalaw04_ActRuns_k1 : List Kd := [.pure, .pure]
def podestalaw04_ActRuns_k5 : List Kd := [.pure, .pure, .pure, .pure, .pure, .pure, .pure, .pure, .pure, .pure, .pure, .pure, .pure, .pure, .pure, .pure, .pure, .pure, .pure, .pure, .pure, .pure]
def podestalaw04_ActRuns_k4 : List Kd := [.pure, .pure, .pure, .pure, .pure, .pure, .pure, .pure, .pure, .pure, .pure, .pure, .pure, .pure, .pure, .pure, .pure, .pure, .pure, .pure, .pure]
def podestalaw04_ActRuns_k3 : List Kd := [.pure, .pure, .pure, .pure, .pure, .pure, .pure, .pure]
def podestalaw04_ActRuns_k2 : List Kd := [.pure, .pure, .loud, .pure, .loud, .pure, .pure, .pure, .pure, .pure]
def podestalaw04_ActRuns_k0 : List Kd := [.pure, .pure]
def podestalaw04_ActRuns_l0s (l : List Act) (h1 : List Int) : List Send → Nat → Option (Sum (Unit) (Bool))
  | [], i =>
    some (.inl ())
  | x :: rest, i =>
    (ixO ((runR l h1).1) ((i : Nat) : Int)).bind fun x1 =>
    (bif ((!((x.Port == x1.Port) && (x.Head == x1.Head))) || ((podestaref01_Head h1) && (!(podestaref01_Head x.Head)))) then
      some (.inr false)
    else
      podestalaw04_ActRuns_l0s l h1 rest (i + 1) )
theorem podestalaw04_ActRuns_l0_walk (l : List Act) (h1 : List Int) (f_l : Bool) (r : Bool) (c0 : Ctx) (hc0 : c0.m.length = 0) (res : Sum (Unit) (Bool)) (J : ∀ w : Unit, res = .inl w → AR Try.prog tab podestalaw04_ActRuns_F c0 (Rp tab.S c0 (.sc (.bool r)) []) [.code [1, 1, 1, 1, 1, 1]] [] [.row 53 (List.map Act.av (([] : List Act) ++ l)) 1000000 false]) (Jr : ∀ w, res = .inr w → w = r) :
    ∀ (rest : List Send) (i : Nat) (hd : ((runA (([] : List Act) ++ l) h1).1).drop i = rest) (H : podestalaw04_ActRuns_l0s l h1 rest i = some res), AR Try.prog tab podestalaw04_ActRuns_F c0 (Rp tab.S c0 (.sc (.bool r)) []) [.code [1, 1, 1, 1, 1, 0, 1, 0, 0], .loop [1, 1, 1, 1, 1, 0, 1, 0], .blk 0, .code [1, 1, 1, 1, 1, 1]] [(3, .ep [.arr .u64 12 h1] 0 none), (5, .sl 59 (List.map Send.av ((runA (([] : List Act) ++ l) h1).1)) false), (7, .sl 59 (List.map Send.av ((runR l h1).1)) false), (9, .sc (.int .i64 ((i : Nat) : Int)))] [.row 53 (List.map Act.av (([] : List Act) ++ l)) 1000000 false] := by
  have hG := tab_ok
  have hm := mixed
  intro rest
  induction rest with
  | nil =>
    intro i hd  H
    rw [podestalaw04_ActRuns_l0s] at H
    refine AR.facts 5 rfl fun hf => ?_
    have hlen : ((runA (([] : List Act) ++ l) h1).1).length ≤ 9223372036854775807 := by have hq := len_ok hf.2.1; rw [List.length_map] at hq; exact hq
    have hge : ((runA (([] : List Act) ++ l) h1).1).length ≤ i := List.drop_eq_nil_iff.1 hd
    have hc : (decide (((i : Nat) : Int) < (((List.map Send.av ((runA (([] : List Act) ++ l) h1).1)).length : Nat) : Int))) = false := by rw [List.length_map]; exact decide_eq_false (by omega)
    refine AR.seg hG hm 3 [3, 5, 7, 9, 52] (k' := [.code [1, 1, 1, 1, 1, 0, 1, 0, 0, 0, 1], .code [1, 1, 1, 1, 1, 0, 1, 0, 0, 1], .loop [1, 1, 1, 1, 1, 0, 1, 0], .blk 0, .code [1, 1, 1, 1, 1, 1]]) (t' := [(3, .ep [.arr .u64 12 h1] 0 none), (5, .sl 59 (List.map Send.av ((runA (([] : List Act) ++ l) h1).1)) false), (7, .sl 59 (List.map Send.av ((runR l h1).1)) false), (9, .sc (.int .i64 ((i : Nat) : Int))), (52, .sc (.bool (decide (((i : Nat) : Int) < (((List.map Send.av ((runA (([] : List Act) ++ l) h1).1)).length : Nat) : Int)))))]) (h' := [.row 53 (List.map Act.av (([] : List Act) ++ l)) 1000000 false]) (by kernel_rfl) ?_
    refine AR.cond (.tmp 52) (decide (((i : Nat) : Int) < (((List.map Send.av ((runA (([] : List Act) ++ l) h1).1)).length : Nat) : Int))) (by kernel_rfl) (by kernel_rfl) (fun hb => ?ht17) (fun hb => ?hf17)
    case ht17 => exact absurd (hb.symm.trans hc) (by decide)
    case hf17 =>
      refine AR.seg hG hm 1 [] (k' := [.code [1, 1, 1, 1, 1, 1]]) (t' := []) (h' := [.row 53 (List.map Act.av (([] : List Act) ++ l)) 1000000 false]) (by kernel_rfl) ?_
      refine AR.keep [] (t' := []) (by kernel_rfl) ?_
      exact J () (Option.some.inj H).symm
  | cons x rest ih =>
    intro i hd  H
    rw [podestalaw04_ActRuns_l0s] at H
    refine AR.facts 5 rfl fun hf => ?_
    have hlen : ((runA (([] : List Act) ++ l) h1).1).length ≤ 9223372036854775807 := by have hq := len_ok hf.2.1; rw [List.length_map] at hq; exact hq
    obtain ⟨hlt, hv_i, hd2⟩ := drop_cons hd
    have hc : (decide (((i : Nat) : Int) < (((List.map Send.av ((runA (([] : List Act) ++ l) h1).1)).length : Nat) : Int))) = true := by rw [List.length_map]; exact decide_eq_true (by omega)
    have hw : IntKind.i64.wrap (((i : Nat) : Int) + 1) = ((i + 1 : Nat) : Int) := wrapI_succ (by omega)
    refine AR.seg hG hm 3 [3, 5, 7, 9, 52] (k' := [.code [1, 1, 1, 1, 1, 0, 1, 0, 0, 0, 1], .code [1, 1, 1, 1, 1, 0, 1, 0, 0, 1], .loop [1, 1, 1, 1, 1, 0, 1, 0], .blk 0, .code [1, 1, 1, 1, 1, 1]]) (t' := [(3, .ep [.arr .u64 12 h1] 0 none), (5, .sl 59 (List.map Send.av ((runA (([] : List Act) ++ l) h1).1)) false), (7, .sl 59 (List.map Send.av ((runR l h1).1)) false), (9, .sc (.int .i64 ((i : Nat) : Int))), (52, .sc (.bool (decide (((i : Nat) : Int) < (((List.map Send.av ((runA (([] : List Act) ++ l) h1).1)).length : Nat) : Int)))))]) (h' := [.row 53 (List.map Act.av (([] : List Act) ++ l)) 1000000 false]) (by kernel_rfl) ?_
    refine AR.cond (.tmp 52) (decide (((i : Nat) : Int) < (((List.map Send.av ((runA (([] : List Act) ++ l) h1).1)).length : Nat) : Int))) (by kernel_rfl) (by kernel_rfl) (fun hb => ?ht18) (fun hb => ?hf18)
    case ht18 =>
      refine AR.seg hG hm 4 [3, 5, 7, 9] (k' := [.code [1, 1, 1, 1, 1, 0, 1, 0, 0, 1, 0, 0, 0], .code [1, 1, 1, 1, 1, 0, 1, 0, 0, 1, 0, 0, 1], .blk 1, .code [1, 1, 1, 1, 1, 0, 1, 0, 0, 1, 1], .loop [1, 1, 1, 1, 1, 0, 1, 0], .blk 0, .code [1, 1, 1, 1, 1, 1]]) (t' := [(3, .ep [.arr .u64 12 h1] 0 none), (5, .sl 59 (List.map Send.av ((runA (([] : List Act) ++ l) h1).1)) false), (7, .sl 59 (List.map Send.av ((runR l h1).1)) false), (9, .sc (.int .i64 ((i : Nat) : Int)))]) (h' := [.row 53 (List.map Act.av (([] : List Act) ++ l)) 1000000 false]) (by kernel_rfl) ?_
      refine AR.reg hm podestalaw04_ActRuns_k5 (by kernel_rfl) ?_
      refine DK.seg hG 2 [3, 5, 7, 9, 55, 56] (t' := [(3, .ep [.arr .u64 12 h1] 0 none), (5, .sl 59 (List.map Send.av ((runA (([] : List Act) ++ l) h1).1)) false), (7, .sl 59 (List.map Send.av ((runR l h1).1)) false), (9, .sc (.int .i64 ((i : Nat) : Int))), (55, .sl 59 (List.map Send.av ((runA (([] : List Act) ++ l) h1).1)) false), (56, .sc (.int .i64 ((i : Nat) : Int)))]) (h' := [.row 53 (List.map Act.av (([] : List Act) ++ l)) 1000000 false]) (by kernel_rfl) rfl ?_
      refine DK.op' [3, 5, 7, 9, 57] (t' := [(3, .ep [.arr .u64 12 h1] 0 none), (5, .sl 59 (List.map Send.av ((runA (([] : List Act) ++ l) h1).1)) false), (7, .sl 59 (List.map Send.av ((runR l h1).1)) false), (9, .sc (.int .i64 ((i : Nat) : Int))), (57, .ep [.sc (.int .i64 x.Port), .arr .u64 12 x.Head] 0 none)]) (h' := [.row 53 (List.map Act.av (([] : List Act) ++ l)) 1000000 false]) (LSpec.index' (r := Send.av x) (fs := [.sc (.int .i64 x.Port), .arr .u64 12 x.Head]) hG (rows := List.map Send.av ((runA (([] : List Act) ++ l) h1).1)) (j := ((i : Nat) : Int)) (by kernel_rfl) (ixO_map hv_i _) (by kernel_rfl)) (by kernel_rfl) rfl (by kernel_rfl) rfl ?_
      refine DK.seg hG 3 [3, 5, 7, 9, 58, 59, 60] (t' := [(3, .ep [.arr .u64 12 h1] 0 none), (5, .sl 59 (List.map Send.av ((runA (([] : List Act) ++ l) h1).1)) false), (7, .sl 59 (List.map Send.av ((runR l h1).1)) false), (9, .sc (.int .i64 ((i : Nat) : Int))), (58, Send.av x), (59, .sl 59 (List.map Send.av ((runR l h1).1)) false), (60, .sc (.int .i64 ((i : Nat) : Int)))]) (h' := [.row 53 (List.map Act.av (([] : List Act) ++ l)) 1000000 false]) (by kernel_rfl) rfl ?_
      obtain ⟨x1, hv, H⟩ := Option.bind_eq_some_iff.1 H
      refine DK.op' [3, 5, 7, 9, 58, 61] (t' := [(3, .ep [.arr .u64 12 h1] 0 none), (5, .sl 59 (List.map Send.av ((runA (([] : List Act) ++ l) h1).1)) false), (7, .sl 59 (List.map Send.av ((runR l h1).1)) false), (9, .sc (.int .i64 ((i : Nat) : Int))), (58, Send.av x), (61, .ep [.sc (.int .i64 x1.Port), .arr .u64 12 x1.Head] 0 none)]) (h' := [.row 53 (List.map Act.av (([] : List Act) ++ l)) 1000000 false]) (LSpec.index' (r := Send.av x1) (fs := [.sc (.int .i64 x1.Port), .arr .u64 12 x1.Head]) hG (rows := List.map Send.av ((runR l h1).1)) (j := ((i : Nat) : Int)) (by kernel_rfl) (ixO_map hv _) (by kernel_rfl)) (by kernel_rfl) rfl (by kernel_rfl) rfl ?_
      refine DK.seg hG 1 [3, 5, 7, 9, 58, 62] (t' := [(3, .ep [.arr .u64 12 h1] 0 none), (5, .sl 59 (List.map Send.av ((runA (([] : List Act) ++ l) h1).1)) false), (7, .sl 59 (List.map Send.av ((runR l h1).1)) false), (9, .sc (.int .i64 ((i : Nat) : Int))), (58, Send.av x), (62, Send.av x1)]) (h' := [.row 53 (List.map Act.av (([] : List Act) ++ l)) 1000000 false]) (by kernel_rfl) rfl ?_
      refine DK.op' [3, 5, 7, 9, 63] (t' := [(3, .ep [.arr .u64 12 h1] 0 none), (5, .sl 59 (List.map Send.av ((runA (([] : List Act) ++ l) h1).1)) false), (7, .sl 59 (List.map Send.av ((runR l h1).1)) false), (9, .sc (.int .i64 ((i : Nat) : Int))), (63, .sc (.bool (!((x.Port == x1.Port) && (x.Head == x1.Head)))))]) (h' := [.row 53 (List.map Act.av (([] : List Act) ++ l)) 1000000 false]) (LSpec.eq' 9 (r := (!((x.Port == x1.Port) && (x.Head == x1.Head)))) (by kernel_rfl)) (by kernel_rfl) rfl (by kernel_rfl) rfl ?_
      refine DK.seg hG 1 [3, 5, 7, 9, 64] (t' := [(3, .ep [.arr .u64 12 h1] 0 none), (5, .sl 59 (List.map Send.av ((runA (([] : List Act) ++ l) h1).1)) false), (7, .sl 59 (List.map Send.av ((runR l h1).1)) false), (9, .sc (.int .i64 ((i : Nat) : Int))), (64, .sc (.bool (!((x.Port == x1.Port) && (x.Head == x1.Head)))))]) (h' := [.row 53 (List.map Act.av (([] : List Act) ++ l)) 1000000 false]) (by kernel_rfl) rfl ?_
      refine DK.mux 64 (!((x.Port == x1.Port) && (x.Head == x1.Head))) (j := 22) (h' := [.row 53 (List.map Act.av (([] : List Act) ++ l)) 1000000 false]) (by kernel_rfl) (fun z => [(3, .ep [.arr .u64 12 h1] 0 none), (5, .sl 59 (List.map Send.av ((runA (([] : List Act) ++ l) h1).1)) false), (7, .sl 59 (List.map Send.av ((runR l h1).1)) false), (9, .sc (.int .i64 ((i : Nat) : Int))), (76, .sc (.bool (z || ((podestaref01_Head h1) && (!(podestaref01_Head x.Head))))))]) ?J20 (fun hb J => ?ht20) (fun hb J => ?hf20)
      case ht20 =>
        exact DK.seg hG 12 [3, 5, 7, 9, 76] (by kernel_rfl) rfl J
      case hf20 =>
        refine DK.seg hG 1 [3, 5, 7, 9, 64, 65] (t' := [(3, .ep [.arr .u64 12 h1] 0 none), (5, .sl 59 (List.map Send.av ((runA (([] : List Act) ++ l) h1).1)) false), (7, .sl 59 (List.map Send.av ((runR l h1).1)) false), (9, .sc (.int .i64 ((i : Nat) : Int))), (64, .sc (.bool false)), (65, .arr .u64 12 h1)]) (h' := [.row 53 (List.map Act.av (([] : List Act) ++ l)) 1000000 false]) (by kernel_rfl) rfl ?_
        refine DK.op' [3, 5, 7, 9, 64, 66] (t' := [(3, .ep [.arr .u64 12 h1] 0 none), (5, .sl 59 (List.map Send.av ((runA (([] : List Act) ++ l) h1).1)) false), (7, .sl 59 (List.map Send.av ((runR l h1).1)) false), (9, .sc (.int .i64 ((i : Nat) : Int))), (64, .sc (.bool false)), (66, .sc (.bool (podestaref01_Head h1)))]) (h' := [.row 53 (List.map Act.av (([] : List Act) ++ l)) 1000000 false]) (LSpec.callP' (podestaref01_Head_calls h1) (by kernel_rfl)) (by kernel_rfl) rfl (by kernel_rfl) rfl ?_
        refine DK.seg hG 1 [3, 5, 7, 9, 64, 67] (t' := [(3, .ep [.arr .u64 12 h1] 0 none), (5, .sl 59 (List.map Send.av ((runA (([] : List Act) ++ l) h1).1)) false), (7, .sl 59 (List.map Send.av ((runR l h1).1)) false), (9, .sc (.int .i64 ((i : Nat) : Int))), (64, .sc (.bool false)), (67, .sc (.bool (podestaref01_Head h1)))]) (h' := [.row 53 (List.map Act.av (([] : List Act) ++ l)) 1000000 false]) (by kernel_rfl) rfl ?_
        refine DK.mux 67 (podestaref01_Head h1) (j := 21) (h' := [.row 53 (List.map Act.av (([] : List Act) ++ l)) 1000000 false]) (by kernel_rfl) (fun z => [(3, .ep [.arr .u64 12 h1] 0 none), (5, .sl 59 (List.map Send.av ((runA (([] : List Act) ++ l) h1).1)) false), (7, .sl 59 (List.map Send.av ((runR l h1).1)) false), (9, .sc (.int .i64 ((i : Nat) : Int))), (64, .sc (.bool false)), (75, .sc (.bool (z && (!(podestaref01_Head x.Head)))))]) ?J21 (fun hb J => ?ht21) (fun hb J => ?hf21)
        case ht21 =>
          refine DK.seg hG 2 [3, 5, 7, 9, 64, 67, 68, 69] (t' := [(3, .ep [.arr .u64 12 h1] 0 none), (5, .sl 59 (List.map Send.av ((runA (([] : List Act) ++ l) h1).1)) false), (7, .sl 59 (List.map Send.av ((runR l h1).1)) false), (9, .sc (.int .i64 ((i : Nat) : Int))), (64, .sc (.bool false)), (67, .sc (.bool true)), (68, .sl 59 (List.map Send.av ((runA (([] : List Act) ++ l) h1).1)) false), (69, .sc (.int .i64 ((i : Nat) : Int)))]) (h' := [.row 53 (List.map Act.av (([] : List Act) ++ l)) 1000000 false]) (by kernel_rfl) rfl ?_
          refine DK.op' [3, 5, 7, 9, 64, 67, 70] (t' := [(3, .ep [.arr .u64 12 h1] 0 none), (5, .sl 59 (List.map Send.av ((runA (([] : List Act) ++ l) h1).1)) false), (7, .sl 59 (List.map Send.av ((runR l h1).1)) false), (9, .sc (.int .i64 ((i : Nat) : Int))), (64, .sc (.bool false)), (67, .sc (.bool true)), (70, .ep [.sc (.int .i64 x.Port), .arr .u64 12 x.Head] 0 none)]) (h' := [.row 53 (List.map Act.av (([] : List Act) ++ l)) 1000000 false]) (LSpec.index' (r := Send.av x) (fs := [.sc (.int .i64 x.Port), .arr .u64 12 x.Head]) hG (rows := List.map Send.av ((runA (([] : List Act) ++ l) h1).1)) (j := ((i : Nat) : Int)) (by kernel_rfl) (ixO_map hv_i _) (by kernel_rfl)) (by kernel_rfl) rfl (by kernel_rfl) rfl ?_
          refine DK.seg hG 2 [3, 5, 7, 9, 64, 67, 72] (t' := [(3, .ep [.arr .u64 12 h1] 0 none), (5, .sl 59 (List.map Send.av ((runA (([] : List Act) ++ l) h1).1)) false), (7, .sl 59 (List.map Send.av ((runR l h1).1)) false), (9, .sc (.int .i64 ((i : Nat) : Int))), (64, .sc (.bool false)), (67, .sc (.bool true)), (72, .arr .u64 12 x.Head)]) (h' := [.row 53 (List.map Act.av (([] : List Act) ++ l)) 1000000 false]) (by kernel_rfl) rfl ?_
          refine DK.op' [3, 5, 7, 9, 64, 67, 73] (t' := [(3, .ep [.arr .u64 12 h1] 0 none), (5, .sl 59 (List.map Send.av ((runA (([] : List Act) ++ l) h1).1)) false), (7, .sl 59 (List.map Send.av ((runR l h1).1)) false), (9, .sc (.int .i64 ((i : Nat) : Int))), (64, .sc (.bool false)), (67, .sc (.bool true)), (73, .sc (.bool (podestaref01_Head x.Head)))]) (h' := [.row 53 (List.map Act.av (([] : List Act) ++ l)) 1000000 false]) (LSpec.callP' (podestaref01_Head_calls x.Head) (by kernel_rfl)) (by kernel_rfl) rfl (by kernel_rfl) rfl ?_
          exact DK.seg hG 2 [3, 5, 7, 9, 64, 75] (by kernel_rfl) rfl J
        case hf21 =>
          exact DK.seg hG 8 [3, 5, 7, 9, 64, 75] (by kernel_rfl) rfl J
        exact DK.seg hG 1 [3, 5, 7, 9, 76] (by kernel_rfl) rfl J
      refine DK.done (by kernel_rfl) (by kernel_rfl) ?_
      refine AR.cond (.tmp 76) ((!((x.Port == x1.Port) && (x.Head == x1.Head))) || ((podestaref01_Head h1) && (!(podestaref01_Head x.Head)))) (by kernel_rfl) (by kernel_rfl) (fun hb => ?ht22) (fun hb => ?hf22)
      case ht22 =>
        replace H := cond_t hb H
        refine AR.seg hG hm 2 [4] (k' := [.code [1, 1, 1, 1, 1, 0, 1, 0, 0, 1, 0, 0, 1, 0, 1], .blk 1, .code [1, 1, 1, 1, 1, 0, 1, 0, 0, 1, 1], .loop [1, 1, 1, 1, 1, 0, 1, 0], .blk 0, .code [1, 1, 1, 1, 1, 1]]) (t' := [(4, .sc (.bool false))]) (h' := [.row 53 (List.map Act.av (([] : List Act) ++ l)) 1000000 false]) (by kernel_rfl) ?_
        obtain rfl := Option.some.inj H
        obtain rfl := Jr _ rfl
        exact AR.ret0 (fn := Try.f7) hG Try.func7 (by kernel_rfl) hc0 (r0 := .sc (.bool false)) (by kernel_rfl) (WkV.refl _)
      case hf22 =>
        replace H := cond_f hb H
        refine AR.seg hG hm 3 [3, 5, 7, 9] (k' := [.loop [1, 1, 1, 1, 1, 0, 1, 0], .blk 0, .code [1, 1, 1, 1, 1, 1]]) (t' := [(3, .ep [.arr .u64 12 h1] 0 none), (5, .sl 59 (List.map Send.av ((runA (([] : List Act) ++ l) h1).1)) false), (7, .sl 59 (List.map Send.av ((runR l h1).1)) false), (9, .sc (.int .i64 (IntKind.i64.wrap (((i : Nat) : Int) + 1))))]) (h' := [.row 53 (List.map Act.av (([] : List Act) ++ l)) 1000000 false]) (by kernel_rfl) ?_
        refine AR.keep [3, 5, 7, 9] (t' := [(3, .ep [.arr .u64 12 h1] 0 none), (5, .sl 59 (List.map Send.av ((runA (([] : List Act) ++ l) h1).1)) false), (7, .sl 59 (List.map Send.av ((runR l h1).1)) false), (9, .sc (.int .i64 (IntKind.i64.wrap (((i : Nat) : Int) + 1))))]) (by kernel_rfl) ?_
        refine AR.loop_round ?_
        rw [hw]
        exact ih (i + 1) hd2 H
    case hf18 => exact absurd (hc.symm.trans hb) (by decide)

def podestalaw04_ActRuns_raw (l : List Act) (h1 : List Int) : Option (Bool) :=
  (bif (decide ((((List.map Act.av l).length : Nat) : Int) > 50)) then
    some true
  else
    fitO (([] : List Act).length + l.length) 32 (
    (bif ((((act_Sound l) != (podestaref04_Acts l)) || ((runA (([] : List Act) ++ l) h1).2 != (runR l h1).2)) || ((((List.map Send.av ((runA (([] : List Act) ++ l) h1).1)).length : Nat) : Int) != (((List.map Send.av ((runR l h1).1)).length : Nat) : Int))) then
      some false
    else
      loopO (podestalaw04_ActRuns_l0s l h1 ((runA (([] : List Act) ++ l) h1).1) 0) fun v =>
      some true)))
theorem podestalaw04_ActRuns_walk (l : List Act) (h1 : List Int) (f_l : Bool) (r : Bool) (H : podestalaw04_ActRuns_raw l h1 = some r) :
    ACalls Try.prog tab.S 7 [.sl 53 (List.map Act.av l) f_l, .arr .u64 12 h1] [] (.sc (.bool r)) [] := by
  have hG := tab_ok
  have hm := mixed
  refine ACalls.of_AR (G := tab) podestalaw04_ActRuns_F (fn := Try.f7) Try.func7 (by kernel_rfl) (by kernel_rfl) (by kernel_rfl) (Nat.le_of_ble_eq_true (by kernel_rfl)) ?_
  intro c0 hc0
  replace hc0 : c0.m.length = 0 := hc0
  rw [podestalaw04_ActRuns_raw] at H
  refine AR.seg hG hm 1 [0, 1] (k' := [.code [0], .code [1]]) (t' := [(0, .sl 53 (List.map Act.av l) f_l), (1, .arr .u64 12 h1)]) (h' := []) (by kernel_rfl) ?_
  refine AR.reg hm podestalaw04_ActRuns_k0 (by kernel_rfl) ?_
  refine DK.op' [0, 3] (t' := [(0, .sl 53 (List.map Act.av l) f_l), (3, .ep [.arr .u64 12 h1] 0 none)]) (h' := []) (LSpec.boxP (fs := [.arr .u64 12 h1]) (by kernel_rfl)) (by kernel_rfl) rfl (by kernel_rfl) rfl ?_
  refine DK.seg hG 1 [0, 3] (t' := [(0, .sl 53 (List.map Act.av l) f_l), (3, .ep [.arr .u64 12 h1] 0 none)]) (h' := []) (by kernel_rfl) rfl ?_
  refine DK.done (by kernel_rfl) (by kernel_rfl) ?_
  refine AR.seg hG hm 3 [0, 3, 12] (k' := [.code [1, 0, 1], .code [1, 1]]) (t' := [(0, .sl 53 (List.map Act.av l) f_l), (3, .ep [.arr .u64 12 h1] 0 none), (12, .sc (.bool (decide ((((List.map Act.av l).length : Nat) : Int) > 50))))]) (h' := []) (by kernel_rfl) ?_
  refine AR.cond (.tmp 12) (decide ((((List.map Act.av l).length : Nat) : Int) > 50)) (by kernel_rfl) (by kernel_rfl) (fun hb => ?ht1) (fun hb => ?hf1)
  case ht1 =>
    replace H := cond_t hb H
    refine AR.seg hG hm 1 [] (k' := [.code [1, 0, 1, 0, 0], .code [1, 0, 1, 0, 1], .code [1, 1]]) (t' := []) (h' := []) (by kernel_rfl) ?_
    refine AR.reg hm podestalaw04_ActRuns_k1 (by kernel_rfl) ?_
    refine DK.op' [13] (t' := [(13, .sc (.bool true))]) (h' := []) (LSpec.callP' (podestalaw04_answers_ok) (by kernel_rfl)) (by kernel_rfl) rfl (by kernel_rfl) rfl ?_
    refine DK.seg hG 1 [4] (t' := [(4, .sc (.bool true))]) (h' := []) (by kernel_rfl) rfl ?_
    refine DK.done (by kernel_rfl) (by kernel_rfl) ?_
    obtain rfl := Option.some.inj H
    exact AR.ret0 (fn := Try.f7) hG Try.func7 (by kernel_rfl) hc0 (r0 := .sc (.bool true)) (by kernel_rfl) (WkV.refl _)
  case hf1 =>
    replace H := cond_f hb H
    refine AR.seg hG hm 2 [0, 3] (k' := [.code [1, 1, 0], .code [1, 1, 1]]) (t' := [(0, .sl 53 (List.map Act.av l) f_l), (3, .ep [.arr .u64 12 h1] 0 none)]) (h' := []) (by kernel_rfl) ?_
    refine AR.reg hm podestalaw04_ActRuns_k2 (by kernel_rfl) ?_
    refine DK.seg hG 2 [0, 3, 15, 16] (t' := [(0, .sl 53 (List.map Act.av l) f_l), (3, .ep [.arr .u64 12 h1] 0 none), (15, .sl 53 (List.map Act.av []) true), (16, .sl 53 (List.map Act.av l) f_l)]) (h' := []) (by kernel_rfl) rfl ?_
    obtain ⟨hfit, H⟩ := fitO_some H
    refine DK.op' [0, 3, 17] (t' := [(0, .sl 53 (List.map Act.av l) f_l), (3, .ep [.arr .u64 12 h1] 0 none), (17, .own 0 1000000)]) (h' := [.row 53 (List.map Act.av (([] : List Act) ++ l)) 1000000 true]) (LSpec.appendB hG Act.av ([] : List Act) l 53 32 rfl hfit (by kernel_rfl)) (by kernel_rfl) (by kernel_rfl) (by kernel_rfl) rfl ?_
    refine DK.seg hG 1 [0, 3, 17, 18] (t' := [(0, .sl 53 (List.map Act.av l) f_l), (3, .ep [.arr .u64 12 h1] 0 none), (17, .own 0 1000000), (18, .arr .u64 12 h1)]) (h' := [.row 53 (List.map Act.av (([] : List Act) ++ l)) 1000000 true]) (by kernel_rfl) rfl ?_
    refine DK.op' [0, 3, 19] (t' := [(0, .sl 53 (List.map Act.av l) f_l), (3, .ep [.arr .u64 12 h1] 0 none), (19, .tup [.sl 59 (List.map Send.av ((runA (([] : List Act) ++ l) h1).1)) false, .sc (.bool ((runA (([] : List Act) ++ l) h1).2))])]) (h' := [.row 53 (List.map Act.av (([] : List Act) ++ l)) 1000000 false]) (LSpec.callC' [0] (act_Run_ok (([] : List Act) ++ l) h1 false) (by kernel_rfl) (by kernel_rfl)) (by kernel_rfl) (by kernel_rfl) (by kernel_rfl) rfl ?_
    refine DK.seg hG 5 [0, 3, 5, 6] (t' := [(0, .sl 53 (List.map Act.av l) f_l), (3, .ep [.arr .u64 12 h1] 0 none), (5, .sl 59 (List.map Send.av ((runA (([] : List Act) ++ l) h1).1)) false), (6, .sc (.bool ((runA (([] : List Act) ++ l) h1).2)))]) (h' := [.row 53 (List.map Act.av (([] : List Act) ++ l)) 1000000 false]) (by kernel_rfl) rfl ?_
    refine DK.done (by kernel_rfl) (by kernel_rfl) ?_
    refine AR.seg hG hm 1 [0, 3, 5, 6] (k' := [.code [1, 1, 1, 0], .code [1, 1, 1, 1]]) (t' := [(0, .sl 53 (List.map Act.av l) f_l), (3, .ep [.arr .u64 12 h1] 0 none), (5, .sl 59 (List.map Send.av ((runA (([] : List Act) ++ l) h1).1)) false), (6, .sc (.bool ((runA (([] : List Act) ++ l) h1).2)))]) (h' := [.row 53 (List.map Act.av (([] : List Act) ++ l)) 1000000 false]) (by kernel_rfl) ?_
    refine AR.reg hm podestalaw04_ActRuns_k3 (by kernel_rfl) ?_
    refine DK.seg hG 2 [0, 3, 5, 6, 23, 24] (t' := [(0, .sl 53 (List.map Act.av l) f_l), (3, .ep [.arr .u64 12 h1] 0 none), (5, .sl 59 (List.map Send.av ((runA (([] : List Act) ++ l) h1).1)) false), (6, .sc (.bool ((runA (([] : List Act) ++ l) h1).2))), (23, .sl 53 (List.map Act.av l) f_l), (24, .arr .u64 12 h1)]) (h' := [.row 53 (List.map Act.av (([] : List Act) ++ l)) 1000000 false]) (by kernel_rfl) rfl ?_
    refine DK.op' [0, 3, 5, 6, 25] (t' := [(0, .sl 53 (List.map Act.av l) f_l), (3, .ep [.arr .u64 12 h1] 0 none), (5, .sl 59 (List.map Send.av ((runA (([] : List Act) ++ l) h1).1)) false), (6, .sc (.bool ((runA (([] : List Act) ++ l) h1).2))), (25, .tup [.sl 59 (List.map Send.av ((runR l h1).1)) false, .sc (.bool ((runR l h1).2))])]) (h' := [.row 53 (List.map Act.av (([] : List Act) ++ l)) 1000000 false]) (LSpec.callP' (ref_Run_ok l h1 f_l) (by kernel_rfl)) (by kernel_rfl) rfl (by kernel_rfl) rfl ?_
    refine DK.seg hG 5 [0, 3, 5, 6, 7, 8] (t' := [(0, .sl 53 (List.map Act.av l) f_l), (3, .ep [.arr .u64 12 h1] 0 none), (5, .sl 59 (List.map Send.av ((runA (([] : List Act) ++ l) h1).1)) false), (6, .sc (.bool ((runA (([] : List Act) ++ l) h1).2))), (7, .sl 59 (List.map Send.av ((runR l h1).1)) false), (8, .sc (.bool ((runR l h1).2)))]) (h' := [.row 53 (List.map Act.av (([] : List Act) ++ l)) 1000000 false]) (by kernel_rfl) rfl ?_
    refine DK.done (by kernel_rfl) (by kernel_rfl) ?_
    refine AR.seg hG hm 2 [0, 3, 5, 6, 7, 8] (k' := [.code [1, 1, 1, 1, 0, 0], .code [1, 1, 1, 1, 0, 1], .code [1, 1, 1, 1, 1]]) (t' := [(0, .sl 53 (List.map Act.av l) f_l), (3, .ep [.arr .u64 12 h1] 0 none), (5, .sl 59 (List.map Send.av ((runA (([] : List Act) ++ l) h1).1)) false), (6, .sc (.bool ((runA (([] : List Act) ++ l) h1).2))), (7, .sl 59 (List.map Send.av ((runR l h1).1)) false), (8, .sc (.bool ((runR l h1).2)))]) (h' := [.row 53 (List.map Act.av (([] : List Act) ++ l)) 1000000 false]) (by kernel_rfl) ?_
    refine AR.reg hm podestalaw04_ActRuns_k4 (by kernel_rfl) ?_
    refine DK.op' [0, 3, 5, 6, 7, 8, 28] (t' := [(0, .sl 53 (List.map Act.av l) f_l), (3, .ep [.arr .u64 12 h1] 0 none), (5, .sl 59 (List.map Send.av ((runA (([] : List Act) ++ l) h1).1)) false), (6, .sc (.bool ((runA (([] : List Act) ++ l) h1).2))), (7, .sl 59 (List.map Send.av ((runR l h1).1)) false), (8, .sc (.bool ((runR l h1).2))), (28, .sc (.bool true))]) (h' := [.row 53 (List.map Act.av (([] : List Act) ++ l)) 1000000 false]) (LSpec.callP' (podestalaw04_answers_ok) (by kernel_rfl)) (by kernel_rfl) rfl (by kernel_rfl) rfl ?_
    refine DK.seg hG 3 [0, 3, 5, 6, 7, 8, 30, 31] (t' := [(0, .sl 53 (List.map Act.av l) f_l), (3, .ep [.arr .u64 12 h1] 0 none), (5, .sl 59 (List.map Send.av ((runA (([] : List Act) ++ l) h1).1)) false), (6, .sc (.bool ((runA (([] : List Act) ++ l) h1).2))), (7, .sl 59 (List.map Send.av ((runR l h1).1)) false), (8, .sc (.bool ((runR l h1).2))), (30, .sc (.bool false)), (31, .sl 53 (List.map Act.av l) f_l)]) (h' := [.row 53 (List.map Act.av (([] : List Act) ++ l)) 1000000 false]) (by kernel_rfl) rfl ?_
    refine DK.op' [0, 3, 5, 6, 7, 8, 30, 32] (t' := [(0, .sl 53 (List.map Act.av l) f_l), (3, .ep [.arr .u64 12 h1] 0 none), (5, .sl 59 (List.map Send.av ((runA (([] : List Act) ++ l) h1).1)) false), (6, .sc (.bool ((runA (([] : List Act) ++ l) h1).2))), (7, .sl 59 (List.map Send.av ((runR l h1).1)) false), (8, .sc (.bool ((runR l h1).2))), (30, .sc (.bool false)), (32, .sc (.bool (act_Sound l)))]) (h' := [.row 53 (List.map Act.av (([] : List Act) ++ l)) 1000000 false]) (LSpec.callP' (act_Sound_calls l f_l) (by kernel_rfl)) (by kernel_rfl) rfl (by kernel_rfl) rfl ?_
    refine DK.seg hG 1 [3, 5, 6, 7, 8, 30, 32, 33] (t' := [(3, .ep [.arr .u64 12 h1] 0 none), (5, .sl 59 (List.map Send.av ((runA (([] : List Act) ++ l) h1).1)) false), (6, .sc (.bool ((runA (([] : List Act) ++ l) h1).2))), (7, .sl 59 (List.map Send.av ((runR l h1).1)) false), (8, .sc (.bool ((runR l h1).2))), (30, .sc (.bool false)), (32, .sc (.bool (act_Sound l))), (33, .sl 53 (List.map Act.av l) f_l)]) (h' := [.row 53 (List.map Act.av (([] : List Act) ++ l)) 1000000 false]) (by kernel_rfl) rfl ?_
    refine DK.op' [3, 5, 6, 7, 8, 30, 32, 34] (t' := [(3, .ep [.arr .u64 12 h1] 0 none), (5, .sl 59 (List.map Send.av ((runA (([] : List Act) ++ l) h1).1)) false), (6, .sc (.bool ((runA (([] : List Act) ++ l) h1).2))), (7, .sl 59 (List.map Send.av ((runR l h1).1)) false), (8, .sc (.bool ((runR l h1).2))), (30, .sc (.bool false)), (32, .sc (.bool (act_Sound l))), (34, .sc (.bool (podestaref04_Acts l)))]) (h' := [.row 53 (List.map Act.av (([] : List Act) ++ l)) 1000000 false]) (LSpec.callP' (podestaref04_Acts_calls l f_l) (by kernel_rfl)) (by kernel_rfl) rfl (by kernel_rfl) rfl ?_
    refine DK.seg hG 3 [3, 5, 6, 7, 8, 37] (t' := [(3, .ep [.arr .u64 12 h1] 0 none), (5, .sl 59 (List.map Send.av ((runA (([] : List Act) ++ l) h1).1)) false), (6, .sc (.bool ((runA (([] : List Act) ++ l) h1).2))), (7, .sl 59 (List.map Send.av ((runR l h1).1)) false), (8, .sc (.bool ((runR l h1).2))), (37, .sc (.bool ((act_Sound l) != (podestaref04_Acts l))))]) (h' := [.row 53 (List.map Act.av (([] : List Act) ++ l)) 1000000 false]) (by kernel_rfl) rfl ?_
    refine DK.mux 37 ((act_Sound l) != (podestaref04_Acts l)) (j := 14) (h' := [.row 53 (List.map Act.av (([] : List Act) ++ l)) 1000000 false]) (by kernel_rfl) (fun z => [(3, .ep [.arr .u64 12 h1] 0 none), (5, .sl 59 (List.map Send.av ((runA (([] : List Act) ++ l) h1).1)) false), (7, .sl 59 (List.map Send.av ((runR l h1).1)) false), (41, .sc (.bool (z || ((runA (([] : List Act) ++ l) h1).2 != (runR l h1).2))))]) ?J2 (fun hb J => ?ht2) (fun hb J => ?hf2)
    case ht2 =>
      exact DK.seg hG 4 [3, 5, 7, 41] (by kernel_rfl) rfl J
    case hf2 =>
      exact DK.seg hG 4 [3, 5, 7, 41] (by kernel_rfl) rfl J
    refine DK.seg hG 1 [3, 5, 7, 42] (t' := [(3, .ep [.arr .u64 12 h1] 0 none), (5, .sl 59 (List.map Send.av ((runA (([] : List Act) ++ l) h1).1)) false), (7, .sl 59 (List.map Send.av ((runR l h1).1)) false), (42, .sc (.bool (((act_Sound l) != (podestaref04_Acts l)) || ((runA (([] : List Act) ++ l) h1).2 != (runR l h1).2))))]) (h' := [.row 53 (List.map Act.av (([] : List Act) ++ l)) 1000000 false]) (by kernel_rfl) rfl ?_
    refine DK.mux 42 (((act_Sound l) != (podestaref04_Acts l)) || ((runA (([] : List Act) ++ l) h1).2 != (runR l h1).2)) (j := 21) (h' := [.row 53 (List.map Act.av (([] : List Act) ++ l)) 1000000 false]) (by kernel_rfl) (fun z => [(3, .ep [.arr .u64 12 h1] 0 none), (5, .sl 59 (List.map Send.av ((runA (([] : List Act) ++ l) h1).1)) false), (7, .sl 59 (List.map Send.av ((runR l h1).1)) false), (48, .sc (.bool (z || ((((List.map Send.av ((runA (([] : List Act) ++ l) h1).1)).length : Nat) : Int) != (((List.map Send.av ((runR l h1).1)).length : Nat) : Int)))))]) ?J3 (fun hb J => ?ht3) (fun hb J => ?hf3)
    case ht3 =>
      exact DK.seg hG 6 [3, 5, 7, 48] (by kernel_rfl) rfl J
    case hf3 =>
      exact DK.seg hG 6 [3, 5, 7, 48] (by kernel_rfl) rfl J
    refine DK.done (by kernel_rfl) (by kernel_rfl) ?_
    refine AR.cond (.tmp 48) ((((act_Sound l) != (podestaref04_Acts l)) || ((runA (([] : List Act) ++ l) h1).2 != (runR l h1).2)) || ((((List.map Send.av ((runA (([] : List Act) ++ l) h1).1)).length : Nat) : Int) != (((List.map Send.av ((runR l h1).1)).length : Nat) : Int))) (by kernel_rfl) (by kernel_rfl) (fun hb => ?ht4) (fun hb => ?hf4)
    case ht4 =>
      replace H := cond_t hb H
      refine AR.seg hG hm 2 [4] (k' := [.code [1, 1, 1, 1, 0, 1, 0, 1], .code [1, 1, 1, 1, 1]]) (t' := [(4, .sc (.bool false))]) (h' := [.row 53 (List.map Act.av (([] : List Act) ++ l)) 1000000 false]) (by kernel_rfl) ?_
      obtain rfl := Option.some.inj H
      exact AR.ret0 (fn := Try.f7) hG Try.func7 (by kernel_rfl) hc0 (r0 := .sc (.bool false)) (by kernel_rfl) (WkV.refl _)
    case hf4 =>
      replace H := cond_f hb H
      refine AR.seg hG hm 5 [3, 5, 7, 9] (k' := [.code [1, 1, 1, 1, 1, 0, 1, 0], .blk 0, .code [1, 1, 1, 1, 1, 1]]) (t' := [(3, .ep [.arr .u64 12 h1] 0 none), (5, .sl 59 (List.map Send.av ((runA (([] : List Act) ++ l) h1).1)) false), (7, .sl 59 (List.map Send.av ((runR l h1).1)) false), (9, .sc (.int .i64 0))]) (h' := [.row 53 (List.map Act.av (([] : List Act) ++ l)) 1000000 false]) (by kernel_rfl) ?_
      rcases loopO_some H with ⟨v, hv, H⟩ | hv
      case inr =>
        refine AR.into (by kernel_rfl) ?_
        exact podestalaw04_ActRuns_l0_walk l h1 f_l _ c0 hc0 (.inr _) (fun _ e => by cases e) (fun _ e => (Sum.inr.inj e).symm) ((runA (([] : List Act) ++ l) h1).1) 0 rfl hv
      refine AR.into (by kernel_rfl) ?_
      refine podestalaw04_ActRuns_l0_walk l h1 f_l r c0 hc0 (.inl v) (fun w e => ?_) (fun _ e => by cases e) ((runA (([] : List Act) ++ l) h1).1) 0 rfl hv
      have e := Sum.inl.inj e
      subst e
      refine AR.seg hG hm 2 [4] (k' := [.code [1, 1, 1, 1, 1, 1, 1]]) (t' := [(4, .sc (.bool true))]) (h' := [.row 53 (List.map Act.av (([] : List Act) ++ l)) 1000000 false]) (by kernel_rfl) ?_
      obtain rfl := Option.some.inj H
      exact AR.ret0 (fn := Try.f7) hG Try.func7 (by kernel_rfl) hc0 (r0 := .sc (.bool true)) (by kernel_rfl) (WkV.refl _)

/-! ### podestalaw04.ActPlain: function 9 -/
noncomputable def podestalaw04_ActPlain_F : Go.Sh.Fn := ⟨9, bodyOf Try.f9, 83⟩
def podestalaw04_ActPlain_k0 : List Kd := [.pure, .pure]
def podestalaw04_ActPlain_k1 : List Kd := [.pure, .pure, .pure, .pure, .pure, .pure, .pure, .pure, .pure, .pure, .loud, .pure]
def podestalaw04_ActPlain_k5 : List Kd := [.pure, .pure, .pure, .pure, .pure, .pure, .pure, .pure, .pure, .pure, .pure, .pure, .pure, .pure, .pure, .pure, .pure, .pure, .pure, .read, .pure, .pure]
def podestalaw04_ActPlain_k6 : List Kd := [.pure, .pure]
def podestalaw04_ActPlain_k4 : List Kd := [.pure, .pure, .pure, .pure, .pure, .pure, .pure, .pure, .pure, .pure]
def podestalaw04_ActPlain_k3 : List Kd := [.pure, .read, .loud, .pure, .pure, .pure, .pure, .pure]
def podestalaw04_ActPlain_k2 : List Kd := [.pure, .pure, .pure, .loud, .pure]
def podestalaw04_ActPlain_k9 : List Kd := [.pure, .pure, .pure, .pure, .pure, .pure, .pure, .pure, .pure, .pure, .pure, .pure, .pure, .pure, .pure, .pure, .pure, .pure, .pure, .read, .pure, .pure]
def podestalaw04_ActPlain_k10 : List Kd := [.pure, .pure]
def podestalaw04_ActPlain_k8 : List Kd := [.pure, .pure, .pure, .pure, .pure, .pure, .pure, .pure, .pure, .pure]
def podestalaw04_ActPlain_k7 : List Kd := [.pure, .read, .loud, .pure, .pure, .pure, .pure, .pure]
def podestalaw04_ActPlain_l0s : List Int → List Act → Option ((List Act))
  | [], l =>
    some l
  | x :: rest, l =>
    fitO (l.length + [({ Kind := 1, Port := (IntKind.i64.wrap (1 + (IntKind.i64.wrap (Int.tmod x 16)))), Field := 0, Value := 0 } : Act)].length) 32 (
    podestalaw04_ActPlain_l0s rest (l ++ [({ Kind := 1, Port := (IntKind.i64.wrap (1 + (IntKind.i64.wrap (Int.tmod x 16)))), Field := 0, Value := 0 } : Act)]))
theorem podestalaw04_ActPlain_l0_walk (ports : List Int) (tells : Bool) (h1 : List Int) (f_ports : Bool) (r : Bool) (c0 : Ctx) (hc0 : c0.m.length = 0) (res : (List Act)) (J : AR Try.prog tab podestalaw04_ActPlain_F c0 (Rp tab.S c0 (.sc (.bool r)) []) [.code [1, 1, 1, 1]] [(0, .sl 5 (List.map (intA .u8) ports) f_ports), (1, .sc (.bool tells)), (5, .ptr 0 0 none), (7, .own 1 1000000)] [.box 43 [.arr .u64 12 h1], .row 53 (List.map Act.av res) 1000000 true]) :
    ∀ (rest : List Int) (i : Nat) (hd : ports.drop i = rest) (l : List Act) (H : podestalaw04_ActPlain_l0s rest l = some res), AR Try.prog tab podestalaw04_ActPlain_F c0 (Rp tab.S c0 (.sc (.bool r)) []) [.code [1, 1, 1, 0, 1, 0, 0], .loop [1, 1, 1, 0, 1, 0], .blk 0, .code [1, 1, 1, 1]] [(0, .sl 5 (List.map (intA .u8) ports) f_ports), (1, .sc (.bool tells)), (5, .ptr 0 0 none), (7, .own 1 1000000), (8, .sc (.int .i64 ((i : Nat) : Int)))] [.box 43 [.arr .u64 12 h1], .row 53 (List.map Act.av l) 1000000 true] := by
  have hG := tab_ok
  have hm := mixed
  intro rest
  induction rest with
  | nil =>
    intro i hd l H
    rw [podestalaw04_ActPlain_l0s] at H
    refine AR.facts 0 rfl fun hf => ?_
    have hlen : ports.length ≤ 9223372036854775807 := by have hq := len_ok hf.2.1; rw [List.length_map] at hq; exact hq
    have hge : ports.length ≤ i := List.drop_eq_nil_iff.1 hd
    have hc : (decide (((i : Nat) : Int) < (((List.map (intA .u8) ports).length : Nat) : Int))) = false := by rw [List.length_map]; exact decide_eq_false (by omega)
    refine AR.seg hG hm 3 [0, 1, 5, 7, 8, 19] (k' := [.code [1, 1, 1, 0, 1, 0, 0, 0, 1], .code [1, 1, 1, 0, 1, 0, 0, 1], .loop [1, 1, 1, 0, 1, 0], .blk 0, .code [1, 1, 1, 1]]) (t' := [(0, .sl 5 (List.map (intA .u8) ports) f_ports), (1, .sc (.bool tells)), (5, .ptr 0 0 none), (7, .own 1 1000000), (8, .sc (.int .i64 ((i : Nat) : Int))), (19, .sc (.bool (decide (((i : Nat) : Int) < (((List.map (intA .u8) ports).length : Nat) : Int)))))]) (h' := [.box 43 [.arr .u64 12 h1], .row 53 (List.map Act.av l) 1000000 true]) (by kernel_rfl) ?_
    refine AR.cond (.tmp 19) (decide (((i : Nat) : Int) < (((List.map (intA .u8) ports).length : Nat) : Int))) (by kernel_rfl) (by kernel_rfl) (fun hb => ?ht6) (fun hb => ?hf6)
    case ht6 => exact absurd (hb.symm.trans hc) (by decide)
    case hf6 =>
      refine AR.seg hG hm 1 [0, 1, 5, 7] (k' := [.code [1, 1, 1, 1]]) (t' := [(0, .sl 5 (List.map (intA .u8) ports) f_ports), (1, .sc (.bool tells)), (5, .ptr 0 0 none), (7, .own 1 1000000)]) (h' := [.box 43 [.arr .u64 12 h1], .row 53 (List.map Act.av l) 1000000 true]) (by kernel_rfl) ?_
      refine AR.keep [0, 1, 5, 7] (t' := [(0, .sl 5 (List.map (intA .u8) ports) f_ports), (1, .sc (.bool tells)), (5, .ptr 0 0 none), (7, .own 1 1000000)]) (by kernel_rfl) ?_
      obtain rfl := Option.some.inj H
      exact J
  | cons x rest ih =>
    intro i hd l H
    rw [podestalaw04_ActPlain_l0s] at H
    refine AR.facts 0 rfl fun hf => ?_
    have hlen : ports.length ≤ 9223372036854775807 := by have hq := len_ok hf.2.1; rw [List.length_map] at hq; exact hq
    obtain ⟨hlt, hv_i, hd2⟩ := drop_cons hd
    have hc : (decide (((i : Nat) : Int) < (((List.map (intA .u8) ports).length : Nat) : Int))) = true := by rw [List.length_map]; exact decide_eq_true (by omega)
    have hw : IntKind.i64.wrap (((i : Nat) : Int) + 1) = ((i + 1 : Nat) : Int) := wrapI_succ (by omega)
    refine AR.seg hG hm 3 [0, 1, 5, 7, 8, 19] (k' := [.code [1, 1, 1, 0, 1, 0, 0, 0, 1], .code [1, 1, 1, 0, 1, 0, 0, 1], .loop [1, 1, 1, 0, 1, 0], .blk 0, .code [1, 1, 1, 1]]) (t' := [(0, .sl 5 (List.map (intA .u8) ports) f_ports), (1, .sc (.bool tells)), (5, .ptr 0 0 none), (7, .own 1 1000000), (8, .sc (.int .i64 ((i : Nat) : Int))), (19, .sc (.bool (decide (((i : Nat) : Int) < (((List.map (intA .u8) ports).length : Nat) : Int)))))]) (h' := [.box 43 [.arr .u64 12 h1], .row 53 (List.map Act.av l) 1000000 true]) (by kernel_rfl) ?_
    refine AR.cond (.tmp 19) (decide (((i : Nat) : Int) < (((List.map (intA .u8) ports).length : Nat) : Int))) (by kernel_rfl) (by kernel_rfl) (fun hb => ?ht7) (fun hb => ?hf7)
    case ht7 =>
      refine AR.seg hG hm 3 [0, 1, 5, 7, 8] (k' := [.code [1, 1, 1, 0, 1, 0, 0, 1, 0, 0], .blk 1, .code [1, 1, 1, 0, 1, 0, 0, 1, 1], .loop [1, 1, 1, 0, 1, 0], .blk 0, .code [1, 1, 1, 1]]) (t' := [(0, .sl 5 (List.map (intA .u8) ports) f_ports), (1, .sc (.bool tells)), (5, .ptr 0 0 none), (7, .own 1 1000000), (8, .sc (.int .i64 ((i : Nat) : Int)))]) (h' := [.box 43 [.arr .u64 12 h1], .row 53 (List.map Act.av l) 1000000 true]) (by kernel_rfl) ?_
      refine AR.reg hm podestalaw04_ActPlain_k1 (by kernel_rfl) ?_
      refine DK.seg hG 3 [0, 1, 5, 8, 22, 23, 24] (t' := [(0, .sl 5 (List.map (intA .u8) ports) f_ports), (1, .sc (.bool tells)), (5, .ptr 0 0 none), (8, .sc (.int .i64 ((i : Nat) : Int))), (22, .own 1 1000000), (23, .sl 5 (List.map (intA .u8) ports) f_ports), (24, .sc (.int .i64 ((i : Nat) : Int)))]) (h' := [.box 43 [.arr .u64 12 h1], .row 53 (List.map Act.av l) 1000000 true]) (by kernel_rfl) rfl ?_
      refine DK.op' [0, 1, 5, 8, 22, 25] (t' := [(0, .sl 5 (List.map (intA .u8) ports) f_ports), (1, .sc (.bool tells)), (5, .ptr 0 0 none), (8, .sc (.int .i64 ((i : Nat) : Int))), (22, .own 1 1000000), (25, .ep [.sc (.int .u8 x)] 0 none)]) (h' := [.box 43 [.arr .u64 12 h1], .row 53 (List.map Act.av l) 1000000 true]) (LSpec.index' (r := .sc (.int .u8 x)) (fs := [.sc (.int .u8 x)]) hG (rows := List.map (intA .u8) ports) (j := ((i : Nat) : Int)) (by kernel_rfl) (ixO_map hv_i _) (by kernel_rfl)) (by kernel_rfl) rfl (by kernel_rfl) rfl ?_
      refine DK.seg hG 1 [0, 1, 5, 8, 22, 26] (t' := [(0, .sl 5 (List.map (intA .u8) ports) f_ports), (1, .sc (.bool tells)), (5, .ptr 0 0 none), (8, .sc (.int .i64 ((i : Nat) : Int))), (22, .own 1 1000000), (26, .sc (.int .u8 x))]) (h' := [.box 43 [.arr .u64 12 h1], .row 53 (List.map Act.av l) 1000000 true]) (by kernel_rfl) rfl ?_
      refine DK.op' [0, 1, 5, 8, 22, 27] (t' := [(0, .sl 5 (List.map (intA .u8) ports) f_ports), (1, .sc (.bool tells)), (5, .ptr 0 0 none), (8, .sc (.int .i64 ((i : Nat) : Int))), (22, .own 1 1000000), (27, .sc (.int .u8 (Int.tmod x 16)))]) (h' := [.box 43 [.arr .u64 12 h1], .row 53 (List.map Act.av l) 1000000 true]) (LSpec.rem (k := .u8) (a := x) (b := 16) (by decide) (by kernel_rfl)) (by kernel_rfl) rfl (by kernel_rfl) rfl ?_
      refine DK.seg hG 4 [0, 1, 5, 8, 22, 31] (t' := [(0, .sl 5 (List.map (intA .u8) ports) f_ports), (1, .sc (.bool tells)), (5, .ptr 0 0 none), (8, .sc (.int .i64 ((i : Nat) : Int))), (22, .own 1 1000000), (31, .sl 53 (List.map Act.av [({ Kind := 1, Port := (IntKind.i64.wrap (1 + (IntKind.i64.wrap (Int.tmod x 16)))), Field := 0, Value := 0 } : Act)]) true)]) (h' := [.box 43 [.arr .u64 12 h1], .row 53 (List.map Act.av l) 1000000 true]) (by kernel_rfl) rfl ?_
      obtain ⟨hfit, H⟩ := fitO_some H
      refine DK.op' [0, 1, 5, 8, 32] (t' := [(0, .sl 5 (List.map (intA .u8) ports) f_ports), (1, .sc (.bool tells)), (5, .ptr 0 0 none), (8, .sc (.int .i64 ((i : Nat) : Int))), (32, .own 1 1000001)]) (h' := [.box 43 [.arr .u64 12 h1], .row 53 (List.map Act.av (l ++ [({ Kind := 1, Port := (IntKind.i64.wrap (1 + (IntKind.i64.wrap (Int.tmod x 16)))), Field := 0, Value := 0 } : Act)])) 1000001 true]) (LSpec.append' hG Act.av l [({ Kind := 1, Port := (IntKind.i64.wrap (1 + (IntKind.i64.wrap (Int.tmod x 16)))), Field := 0, Value := 0 } : Act)] 1 1000000 53 32 hfit (by kernel_rfl)) (by kernel_rfl) (by kernel_rfl) (by kernel_rfl) rfl ?_
      refine DK.seg hG 1 [0, 1, 5, 7, 8] (t' := [(0, .sl 5 (List.map (intA .u8) ports) f_ports), (1, .sc (.bool tells)), (5, .ptr 0 0 none), (7, .own 1 1000001), (8, .sc (.int .i64 ((i : Nat) : Int)))]) (h' := [.box 43 [.arr .u64 12 h1], .row 53 (List.map Act.av (l ++ [({ Kind := 1, Port := (IntKind.i64.wrap (1 + (IntKind.i64.wrap (Int.tmod x 16)))), Field := 0, Value := 0 } : Act)])) 1000001 true]) (by kernel_rfl) rfl ?_
      refine DK.done (by kernel_rfl) (by kernel_rfl) ?_
      refine AR.seg hG hm 2 [0, 1, 5, 7, 8] (k' := [.loop [1, 1, 1, 0, 1, 0], .blk 0, .code [1, 1, 1, 1]]) (t' := [(0, .sl 5 (List.map (intA .u8) ports) f_ports), (1, .sc (.bool tells)), (5, .ptr 0 0 none), (7, .own 1 1000001), (8, .sc (.int .i64 (IntKind.i64.wrap (((i : Nat) : Int) + 1))))]) (h' := [.box 43 [.arr .u64 12 h1], .row 53 (List.map Act.av (l ++ [({ Kind := 1, Port := (IntKind.i64.wrap (1 + (IntKind.i64.wrap (Int.tmod x 16)))), Field := 0, Value := 0 } : Act)])) 1000001 true]) (by kernel_rfl) ?_
      refine AR.keep [0, 1, 5, 7, 8] (t' := [(0, .sl 5 (List.map (intA .u8) ports) f_ports), (1, .sc (.bool tells)), (5, .ptr 0 0 none), (7, .own 1 1000001), (8, .sc (.int .i64 (IntKind.i64.wrap (((i : Nat) : Int) + 1))))]) (by kernel_rfl) ?_
      refine AR.norm' 1 1000000 hc0 (t' := [(0, .sl 5 (List.map (intA .u8) ports) f_ports), (1, .sc (.bool tells)), (5, .ptr 0 0 none), (7, .own 1 1000000), (8, .sc (.int .i64 (IntKind.i64.wrap (((i : Nat) : Int) + 1))))]) (h' := [.box 43 [.arr .u64 12 h1], .row 53 (List.map Act.av (l ++ [({ Kind := 1, Port := (IntKind.i64.wrap (1 + (IntKind.i64.wrap (Int.tmod x 16)))), Field := 0, Value := 0 } : Act)])) 1000000 true]) (by kernel_rfl) ?_
      refine AR.loop_round ?_
      rw [hw]
      exact ih (i + 1) hd2 (l ++ [({ Kind := 1, Port := (IntKind.i64.wrap (1 + (IntKind.i64.wrap (Int.tmod x 16)))), Field := 0, Value := 0 } : Act)]) H
    case hf7 => exact absurd (hc.symm.trans hb) (by decide)

def podestalaw04_ActPlain_l1s (ports : List Int) (h1 : List Int) : List Send → Nat → Option (Sum (Unit) (Bool))
  | [], i1 =>
    some (.inl ())
  | x1 :: rest, i1 =>
    (ixO ports ((i1 : Nat) : Int)).bind fun x2 =>
    (bif ((x1.Port != (IntKind.i64.wrap (1 + (IntKind.i64.wrap (Int.tmod x2 16))))) || (!(x1.Head == h1))) then
      some (.inr false)
    else
      podestalaw04_ActPlain_l1s ports h1 rest (i1 + 1) )
theorem podestalaw04_ActPlain_l1_walk (ports : List Int) (tells : Bool) (h1 : List Int) (v : (List Act)) (f_ports : Bool) (r : Bool) (c0 : Ctx) (hc0 : c0.m.length = 0) (res : Sum (Unit) (Bool)) (J : ∀ w : Unit, res = .inl w → AR Try.prog tab podestalaw04_ActPlain_F c0 (Rp tab.S c0 (.sc (.bool r)) []) [.code [1, 1, 1, 1, 1, 1, 1, 1]] [] [.box 43 [.arr .u64 12 h1], .row 53 (List.map Act.av (v ++ [({ Kind := 3, Port := 0, Field := 0, Value := 0 } : Act)])) 1000000 false]) (Jr : ∀ w, res = .inr w → w = r) :
    ∀ (rest : List Send) (i1 : Nat) (hd : ((runA (v ++ [({ Kind := 3, Port := 0, Field := 0, Value := 0 } : Act)]) h1).1).drop i1 = rest) (H : podestalaw04_ActPlain_l1s ports h1 rest i1 = some res), AR Try.prog tab podestalaw04_ActPlain_F c0 (Rp tab.S c0 (.sc (.bool r)) []) [.code [1, 1, 1, 1, 1, 1, 1, 0, 1, 0, 0], .loop [1, 1, 1, 1, 1, 1, 1, 0, 1, 0], .blk 2, .code [1, 1, 1, 1, 1, 1, 1, 1]] [(0, .sl 5 (List.map (intA .u8) ports) f_ports), (5, .ptr 0 0 none), (9, .sl 59 (List.map Send.av ((runA (v ++ [({ Kind := 3, Port := 0, Field := 0, Value := 0 } : Act)]) h1).1)) false), (11, .sc (.int .i64 ((i1 : Nat) : Int)))] [.box 43 [.arr .u64 12 h1], .row 53 (List.map Act.av (v ++ [({ Kind := 3, Port := 0, Field := 0, Value := 0 } : Act)])) 1000000 false] := by
  have hG := tab_ok
  have hm := mixed
  intro rest
  induction rest with
  | nil =>
    intro i1 hd  H
    rw [podestalaw04_ActPlain_l1s] at H
    refine AR.facts 9 rfl fun hf => ?_
    have hlen : ((runA (v ++ [({ Kind := 3, Port := 0, Field := 0, Value := 0 } : Act)]) h1).1).length ≤ 9223372036854775807 := by have hq := len_ok hf.2.1; rw [List.length_map] at hq; exact hq
    have hge : ((runA (v ++ [({ Kind := 3, Port := 0, Field := 0, Value := 0 } : Act)]) h1).1).length ≤ i1 := List.drop_eq_nil_iff.1 hd
    have hc : (decide (((i1 : Nat) : Int) < (((List.map Send.av ((runA (v ++ [({ Kind := 3, Port := 0, Field := 0, Value := 0 } : Act)]) h1).1)).length : Nat) : Int))) = false := by rw [List.length_map]; exact decide_eq_false (by omega)
    refine AR.seg hG hm 3 [0, 5, 9, 11, 57] (k' := [.code [1, 1, 1, 1, 1, 1, 1, 0, 1, 0, 0, 0, 1], .code [1, 1, 1, 1, 1, 1, 1, 0, 1, 0, 0, 1], .loop [1, 1, 1, 1, 1, 1, 1, 0, 1, 0], .blk 2, .code [1, 1, 1, 1, 1, 1, 1, 1]]) (t' := [(0, .sl 5 (List.map (intA .u8) ports) f_ports), (5, .ptr 0 0 none), (9, .sl 59 (List.map Send.av ((runA (v ++ [({ Kind := 3, Port := 0, Field := 0, Value := 0 } : Act)]) h1).1)) false), (11, .sc (.int .i64 ((i1 : Nat) : Int))), (57, .sc (.bool (decide (((i1 : Nat) : Int) < (((List.map Send.av ((runA (v ++ [({ Kind := 3, Port := 0, Field := 0, Value := 0 } : Act)]) h1).1)).length : Nat) : Int)))))]) (h' := [.box 43 [.arr .u64 12 h1], .row 53 (List.map Act.av (v ++ [({ Kind := 3, Port := 0, Field := 0, Value := 0 } : Act)])) 1000000 false]) (by kernel_rfl) ?_
    refine AR.cond (.tmp 57) (decide (((i1 : Nat) : Int) < (((List.map Send.av ((runA (v ++ [({ Kind := 3, Port := 0, Field := 0, Value := 0 } : Act)]) h1).1)).length : Nat) : Int))) (by kernel_rfl) (by kernel_rfl) (fun hb => ?ht20) (fun hb => ?hf20)
    case ht20 => exact absurd (hb.symm.trans hc) (by decide)
    case hf20 =>
      refine AR.seg hG hm 1 [] (k' := [.code [1, 1, 1, 1, 1, 1, 1, 1]]) (t' := []) (h' := [.box 43 [.arr .u64 12 h1], .row 53 (List.map Act.av (v ++ [({ Kind := 3, Port := 0, Field := 0, Value := 0 } : Act)])) 1000000 false]) (by kernel_rfl) ?_
      refine AR.keep [] (t' := []) (by kernel_rfl) ?_
      exact J () (Option.some.inj H).symm
  | cons x1 rest ih =>
    intro i1 hd  H
    rw [podestalaw04_ActPlain_l1s] at H
    refine AR.facts 9 rfl fun hf => ?_
    have hlen : ((runA (v ++ [({ Kind := 3, Port := 0, Field := 0, Value := 0 } : Act)]) h1).1).length ≤ 9223372036854775807 := by have hq := len_ok hf.2.1; rw [List.length_map] at hq; exact hq
    obtain ⟨hlt, hv_i1, hd2⟩ := drop_cons hd
    have hc : (decide (((i1 : Nat) : Int) < (((List.map Send.av ((runA (v ++ [({ Kind := 3, Port := 0, Field := 0, Value := 0 } : Act)]) h1).1)).length : Nat) : Int))) = true := by rw [List.length_map]; exact decide_eq_true (by omega)
    have hw : IntKind.i64.wrap (((i1 : Nat) : Int) + 1) = ((i1 + 1 : Nat) : Int) := wrapI_succ (by omega)
    refine AR.seg hG hm 3 [0, 5, 9, 11, 57] (k' := [.code [1, 1, 1, 1, 1, 1, 1, 0, 1, 0, 0, 0, 1], .code [1, 1, 1, 1, 1, 1, 1, 0, 1, 0, 0, 1], .loop [1, 1, 1, 1, 1, 1, 1, 0, 1, 0], .blk 2, .code [1, 1, 1, 1, 1, 1, 1, 1]]) (t' := [(0, .sl 5 (List.map (intA .u8) ports) f_ports), (5, .ptr 0 0 none), (9, .sl 59 (List.map Send.av ((runA (v ++ [({ Kind := 3, Port := 0, Field := 0, Value := 0 } : Act)]) h1).1)) false), (11, .sc (.int .i64 ((i1 : Nat) : Int))), (57, .sc (.bool (decide (((i1 : Nat) : Int) < (((List.map Send.av ((runA (v ++ [({ Kind := 3, Port := 0, Field := 0, Value := 0 } : Act)]) h1).1)).length : Nat) : Int)))))]) (h' := [.box 43 [.arr .u64 12 h1], .row 53 (List.map Act.av (v ++ [({ Kind := 3, Port := 0, Field := 0, Value := 0 } : Act)])) 1000000 false]) (by kernel_rfl) ?_
    refine AR.cond (.tmp 57) (decide (((i1 : Nat) : Int) < (((List.map Send.av ((runA (v ++ [({ Kind := 3, Port := 0, Field := 0, Value := 0 } : Act)]) h1).1)).length : Nat) : Int))) (by kernel_rfl) (by kernel_rfl) (fun hb => ?ht21) (fun hb => ?hf21)
    case ht21 =>
      refine AR.seg hG hm 4 [0, 5, 9, 11] (k' := [.code [1, 1, 1, 1, 1, 1, 1, 0, 1, 0, 0, 1, 0, 0, 0], .code [1, 1, 1, 1, 1, 1, 1, 0, 1, 0, 0, 1, 0, 0, 1], .blk 3, .code [1, 1, 1, 1, 1, 1, 1, 0, 1, 0, 0, 1, 1], .loop [1, 1, 1, 1, 1, 1, 1, 0, 1, 0], .blk 2, .code [1, 1, 1, 1, 1, 1, 1, 1]]) (t' := [(0, .sl 5 (List.map (intA .u8) ports) f_ports), (5, .ptr 0 0 none), (9, .sl 59 (List.map Send.av ((runA (v ++ [({ Kind := 3, Port := 0, Field := 0, Value := 0 } : Act)]) h1).1)) false), (11, .sc (.int .i64 ((i1 : Nat) : Int)))]) (h' := [.box 43 [.arr .u64 12 h1], .row 53 (List.map Act.av (v ++ [({ Kind := 3, Port := 0, Field := 0, Value := 0 } : Act)])) 1000000 false]) (by kernel_rfl) ?_
      refine AR.reg hm podestalaw04_ActPlain_k5 (by kernel_rfl) ?_
      refine DK.seg hG 2 [0, 5, 9, 11, 60, 61] (t' := [(0, .sl 5 (List.map (intA .u8) ports) f_ports), (5, .ptr 0 0 none), (9, .sl 59 (List.map Send.av ((runA (v ++ [({ Kind := 3, Port := 0, Field := 0, Value := 0 } : Act)]) h1).1)) false), (11, .sc (.int .i64 ((i1 : Nat) : Int))), (60, .sl 59 (List.map Send.av ((runA (v ++ [({ Kind := 3, Port := 0, Field := 0, Value := 0 } : Act)]) h1).1)) false), (61, .sc (.int .i64 ((i1 : Nat) : Int)))]) (h' := [.box 43 [.arr .u64 12 h1], .row 53 (List.map Act.av (v ++ [({ Kind := 3, Port := 0, Field := 0, Value := 0 } : Act)])) 1000000 false]) (by kernel_rfl) rfl ?_
      refine DK.op' [0, 5, 9, 11, 62] (t' := [(0, .sl 5 (List.map (intA .u8) ports) f_ports), (5, .ptr 0 0 none), (9, .sl 59 (List.map Send.av ((runA (v ++ [({ Kind := 3, Port := 0, Field := 0, Value := 0 } : Act)]) h1).1)) false), (11, .sc (.int .i64 ((i1 : Nat) : Int))), (62, .ep [.sc (.int .i64 x1.Port), .arr .u64 12 x1.Head] 0 none)]) (h' := [.box 43 [.arr .u64 12 h1], .row 53 (List.map Act.av (v ++ [({ Kind := 3, Port := 0, Field := 0, Value := 0 } : Act)])) 1000000 false]) (LSpec.index' (r := Send.av x1) (fs := [.sc (.int .i64 x1.Port), .arr .u64 12 x1.Head]) hG (rows := List.map Send.av ((runA (v ++ [({ Kind := 3, Port := 0, Field := 0, Value := 0 } : Act)]) h1).1)) (j := ((i1 : Nat) : Int)) (by kernel_rfl) (ixO_map hv_i1 _) (by kernel_rfl)) (by kernel_rfl) rfl (by kernel_rfl) rfl ?_
      refine DK.seg hG 4 [0, 5, 9, 11, 64, 65, 66] (t' := [(0, .sl 5 (List.map (intA .u8) ports) f_ports), (5, .ptr 0 0 none), (9, .sl 59 (List.map Send.av ((runA (v ++ [({ Kind := 3, Port := 0, Field := 0, Value := 0 } : Act)]) h1).1)) false), (11, .sc (.int .i64 ((i1 : Nat) : Int))), (64, .sc (.int .i64 x1.Port)), (65, .sl 5 (List.map (intA .u8) ports) f_ports), (66, .sc (.int .i64 ((i1 : Nat) : Int)))]) (h' := [.box 43 [.arr .u64 12 h1], .row 53 (List.map Act.av (v ++ [({ Kind := 3, Port := 0, Field := 0, Value := 0 } : Act)])) 1000000 false]) (by kernel_rfl) rfl ?_
      obtain ⟨x2, hv, H⟩ := Option.bind_eq_some_iff.1 H
      refine DK.op' [0, 5, 9, 11, 64, 67] (t' := [(0, .sl 5 (List.map (intA .u8) ports) f_ports), (5, .ptr 0 0 none), (9, .sl 59 (List.map Send.av ((runA (v ++ [({ Kind := 3, Port := 0, Field := 0, Value := 0 } : Act)]) h1).1)) false), (11, .sc (.int .i64 ((i1 : Nat) : Int))), (64, .sc (.int .i64 x1.Port)), (67, .ep [.sc (.int .u8 x2)] 0 none)]) (h' := [.box 43 [.arr .u64 12 h1], .row 53 (List.map Act.av (v ++ [({ Kind := 3, Port := 0, Field := 0, Value := 0 } : Act)])) 1000000 false]) (LSpec.index' (r := .sc (.int .u8 x2)) (fs := [.sc (.int .u8 x2)]) hG (rows := List.map (intA .u8) ports) (j := ((i1 : Nat) : Int)) (by kernel_rfl) (ixO_map hv _) (by kernel_rfl)) (by kernel_rfl) rfl (by kernel_rfl) rfl ?_
      refine DK.seg hG 1 [0, 5, 9, 11, 64, 68] (t' := [(0, .sl 5 (List.map (intA .u8) ports) f_ports), (5, .ptr 0 0 none), (9, .sl 59 (List.map Send.av ((runA (v ++ [({ Kind := 3, Port := 0, Field := 0, Value := 0 } : Act)]) h1).1)) false), (11, .sc (.int .i64 ((i1 : Nat) : Int))), (64, .sc (.int .i64 x1.Port)), (68, .sc (.int .u8 x2))]) (h' := [.box 43 [.arr .u64 12 h1], .row 53 (List.map Act.av (v ++ [({ Kind := 3, Port := 0, Field := 0, Value := 0 } : Act)])) 1000000 false]) (by kernel_rfl) rfl ?_
      refine DK.op' [0, 5, 9, 11, 64, 69] (t' := [(0, .sl 5 (List.map (intA .u8) ports) f_ports), (5, .ptr 0 0 none), (9, .sl 59 (List.map Send.av ((runA (v ++ [({ Kind := 3, Port := 0, Field := 0, Value := 0 } : Act)]) h1).1)) false), (11, .sc (.int .i64 ((i1 : Nat) : Int))), (64, .sc (.int .i64 x1.Port)), (69, .sc (.int .u8 (Int.tmod x2 16)))]) (h' := [.box 43 [.arr .u64 12 h1], .row 53 (List.map Act.av (v ++ [({ Kind := 3, Port := 0, Field := 0, Value := 0 } : Act)])) 1000000 false]) (LSpec.rem (k := .u8) (a := x2) (b := 16) (by decide) (by kernel_rfl)) (by kernel_rfl) rfl (by kernel_rfl) rfl ?_
      refine DK.seg hG 4 [0, 5, 9, 11, 73] (t' := [(0, .sl 5 (List.map (intA .u8) ports) f_ports), (5, .ptr 0 0 none), (9, .sl 59 (List.map Send.av ((runA (v ++ [({ Kind := 3, Port := 0, Field := 0, Value := 0 } : Act)]) h1).1)) false), (11, .sc (.int .i64 ((i1 : Nat) : Int))), (73, .sc (.bool (x1.Port != (IntKind.i64.wrap (1 + (IntKind.i64.wrap (Int.tmod x2 16)))))))]) (h' := [.box 43 [.arr .u64 12 h1], .row 53 (List.map Act.av (v ++ [({ Kind := 3, Port := 0, Field := 0, Value := 0 } : Act)])) 1000000 false]) (by kernel_rfl) rfl ?_
      refine DK.mux 73 (x1.Port != (IntKind.i64.wrap (1 + (IntKind.i64.wrap (Int.tmod x2 16))))) (j := 22) (h' := [.box 43 [.arr .u64 12 h1], .row 53 (List.map Act.av (v ++ [({ Kind := 3, Port := 0, Field := 0, Value := 0 } : Act)])) 1000000 false]) (by kernel_rfl) (fun z => [(0, .sl 5 (List.map (intA .u8) ports) f_ports), (5, .ptr 0 0 none), (9, .sl 59 (List.map Send.av ((runA (v ++ [({ Kind := 3, Port := 0, Field := 0, Value := 0 } : Act)]) h1).1)) false), (11, .sc (.int .i64 ((i1 : Nat) : Int))), (81, .sc (.bool (z || (!(x1.Head == h1)))))]) ?J22 (fun hb J => ?ht22) (fun hb J => ?hf22)
      case ht22 =>
        exact DK.seg hG 8 [0, 5, 9, 11, 81] (by kernel_rfl) rfl J
      case hf22 =>
        refine DK.seg hG 2 [0, 5, 9, 11, 73, 74, 75] (t' := [(0, .sl 5 (List.map (intA .u8) ports) f_ports), (5, .ptr 0 0 none), (9, .sl 59 (List.map Send.av ((runA (v ++ [({ Kind := 3, Port := 0, Field := 0, Value := 0 } : Act)]) h1).1)) false), (11, .sc (.int .i64 ((i1 : Nat) : Int))), (73, .sc (.bool false)), (74, .sl 59 (List.map Send.av ((runA (v ++ [({ Kind := 3, Port := 0, Field := 0, Value := 0 } : Act)]) h1).1)) false), (75, .sc (.int .i64 ((i1 : Nat) : Int)))]) (h' := [.box 43 [.arr .u64 12 h1], .row 53 (List.map Act.av (v ++ [({ Kind := 3, Port := 0, Field := 0, Value := 0 } : Act)])) 1000000 false]) (by kernel_rfl) rfl ?_
        refine DK.op' [0, 5, 9, 11, 73, 76] (t' := [(0, .sl 5 (List.map (intA .u8) ports) f_ports), (5, .ptr 0 0 none), (9, .sl 59 (List.map Send.av ((runA (v ++ [({ Kind := 3, Port := 0, Field := 0, Value := 0 } : Act)]) h1).1)) false), (11, .sc (.int .i64 ((i1 : Nat) : Int))), (73, .sc (.bool false)), (76, .ep [.sc (.int .i64 x1.Port), .arr .u64 12 x1.Head] 0 none)]) (h' := [.box 43 [.arr .u64 12 h1], .row 53 (List.map Act.av (v ++ [({ Kind := 3, Port := 0, Field := 0, Value := 0 } : Act)])) 1000000 false]) (LSpec.index' (r := Send.av x1) (fs := [.sc (.int .i64 x1.Port), .arr .u64 12 x1.Head]) hG (rows := List.map Send.av ((runA (v ++ [({ Kind := 3, Port := 0, Field := 0, Value := 0 } : Act)]) h1).1)) (j := ((i1 : Nat) : Int)) (by kernel_rfl) (ixO_map hv_i1 _) (by kernel_rfl)) (by kernel_rfl) rfl (by kernel_rfl) rfl ?_
        refine DK.seg hG 3 [0, 5, 9, 11, 73, 78, 79] (t' := [(0, .sl 5 (List.map (intA .u8) ports) f_ports), (5, .ptr 0 0 none), (9, .sl 59 (List.map Send.av ((runA (v ++ [({ Kind := 3, Port := 0, Field := 0, Value := 0 } : Act)]) h1).1)) false), (11, .sc (.int .i64 ((i1 : Nat) : Int))), (73, .sc (.bool false)), (78, .arr .u64 12 x1.Head), (79, .arr .u64 12 h1)]) (h' := [.box 43 [.arr .u64 12 h1], .row 53 (List.map Act.av (v ++ [({ Kind := 3, Port := 0, Field := 0, Value := 0 } : Act)])) 1000000 false]) (by kernel_rfl) rfl ?_
        refine DK.op' [0, 5, 9, 11, 73, 80] (t' := [(0, .sl 5 (List.map (intA .u8) ports) f_ports), (5, .ptr 0 0 none), (9, .sl 59 (List.map Send.av ((runA (v ++ [({ Kind := 3, Port := 0, Field := 0, Value := 0 } : Act)]) h1).1)) false), (11, .sc (.int .i64 ((i1 : Nat) : Int))), (73, .sc (.bool false)), (80, .sc (.bool (!(x1.Head == h1))))]) (h' := [.box 43 [.arr .u64 12 h1], .row 53 (List.map Act.av (v ++ [({ Kind := 3, Port := 0, Field := 0, Value := 0 } : Act)])) 1000000 false]) (LSpec.eq' 9 (r := (!(x1.Head == h1))) (by kernel_rfl)) (by kernel_rfl) rfl (by kernel_rfl) rfl ?_
        exact DK.seg hG 1 [0, 5, 9, 11, 81] (by kernel_rfl) rfl J
      refine DK.done (by kernel_rfl) (by kernel_rfl) ?_
      refine AR.cond (.tmp 81) ((x1.Port != (IntKind.i64.wrap (1 + (IntKind.i64.wrap (Int.tmod x2 16))))) || (!(x1.Head == h1))) (by kernel_rfl) (by kernel_rfl) (fun hb => ?ht23) (fun hb => ?hf23)
      case ht23 =>
        replace H := cond_t hb H
        refine AR.seg hG hm 2 [6] (k' := [.code [1, 1, 1, 1, 1, 1, 1, 0, 1, 0, 0, 1, 0, 0, 1, 0, 1], .blk 3, .code [1, 1, 1, 1, 1, 1, 1, 0, 1, 0, 0, 1, 1], .loop [1, 1, 1, 1, 1, 1, 1, 0, 1, 0], .blk 2, .code [1, 1, 1, 1, 1, 1, 1, 1]]) (t' := [(6, .sc (.bool false))]) (h' := [.box 43 [.arr .u64 12 h1], .row 53 (List.map Act.av (v ++ [({ Kind := 3, Port := 0, Field := 0, Value := 0 } : Act)])) 1000000 false]) (by kernel_rfl) ?_
        obtain rfl := Option.some.inj H
        obtain rfl := Jr _ rfl
        exact AR.ret0 (fn := Try.f9) hG Try.func9 (by kernel_rfl) hc0 (r0 := .sc (.bool false)) (by kernel_rfl) (WkV.refl _)
      case hf23 =>
        replace H := cond_f hb H
        refine AR.seg hG hm 3 [0, 5, 9, 11] (k' := [.loop [1, 1, 1, 1, 1, 1, 1, 0, 1, 0], .blk 2, .code [1, 1, 1, 1, 1, 1, 1, 1]]) (t' := [(0, .sl 5 (List.map (intA .u8) ports) f_ports), (5, .ptr 0 0 none), (9, .sl 59 (List.map Send.av ((runA (v ++ [({ Kind := 3, Port := 0, Field := 0, Value := 0 } : Act)]) h1).1)) false), (11, .sc (.int .i64 (IntKind.i64.wrap (((i1 : Nat) : Int) + 1))))]) (h' := [.box 43 [.arr .u64 12 h1], .row 53 (List.map Act.av (v ++ [({ Kind := 3, Port := 0, Field := 0, Value := 0 } : Act)])) 1000000 false]) (by kernel_rfl) ?_
        refine AR.keep [0, 5, 9, 11] (t' := [(0, .sl 5 (List.map (intA .u8) ports) f_ports), (5, .ptr 0 0 none), (9, .sl 59 (List.map Send.av ((runA (v ++ [({ Kind := 3, Port := 0, Field := 0, Value := 0 } : Act)]) h1).1)) false), (11, .sc (.int .i64 (IntKind.i64.wrap (((i1 : Nat) : Int) + 1))))]) (by kernel_rfl) ?_
        refine AR.loop_round ?_
        rw [hw]
        exact ih (i1 + 1) hd2 H
    case hf21 => exact absurd (hc.symm.trans hb) (by decide)

def podestalaw04_ActPlain_l2s (ports : List Int) (h1 : List Int) : List Send → Nat → Option (Sum (Unit) (Bool))
  | [], i2 =>
    some (.inl ())
  | x2 :: rest, i2 =>
    (ixO ports ((i2 : Nat) : Int)).bind fun x3 =>
    (bif ((x2.Port != (IntKind.i64.wrap (1 + (IntKind.i64.wrap (Int.tmod x3 16))))) || (!(x2.Head == h1))) then
      some (.inr false)
    else
      podestalaw04_ActPlain_l2s ports h1 rest (i2 + 1) )
theorem podestalaw04_ActPlain_l2_walk (ports : List Int) (tells : Bool) (h1 : List Int) (v : (List Act)) (f_ports : Bool) (r : Bool) (c0 : Ctx) (hc0 : c0.m.length = 0) (res : Sum (Unit) (Bool)) (J : ∀ w : Unit, res = .inl w → AR Try.prog tab podestalaw04_ActPlain_F c0 (Rp tab.S c0 (.sc (.bool r)) []) [.code [1, 1, 1, 1, 1, 1, 1, 1]] [] [.box 43 [.arr .u64 12 h1], .row 53 (List.map Act.av v) 1000000 false]) (Jr : ∀ w, res = .inr w → w = r) :
    ∀ (rest : List Send) (i2 : Nat) (hd : ((runA v h1).1).drop i2 = rest) (H : podestalaw04_ActPlain_l2s ports h1 rest i2 = some res), AR Try.prog tab podestalaw04_ActPlain_F c0 (Rp tab.S c0 (.sc (.bool r)) []) [.code [1, 1, 1, 1, 1, 1, 1, 0, 1, 0, 0], .loop [1, 1, 1, 1, 1, 1, 1, 0, 1, 0], .blk 2, .code [1, 1, 1, 1, 1, 1, 1, 1]] [(0, .sl 5 (List.map (intA .u8) ports) f_ports), (5, .ptr 0 0 none), (9, .sl 59 (List.map Send.av ((runA v h1).1)) false), (11, .sc (.int .i64 ((i2 : Nat) : Int)))] [.box 43 [.arr .u64 12 h1], .row 53 (List.map Act.av v) 1000000 false] := by
  have hG := tab_ok
  have hm := mixed
  intro rest
  induction rest with
  | nil =>
    intro i2 hd  H
    rw [podestalaw04_ActPlain_l2s] at H
    refine AR.facts 9 rfl fun hf => ?_
    have hlen : ((runA v h1).1).length ≤ 9223372036854775807 := by have hq := len_ok hf.2.1; rw [List.length_map] at hq; exact hq
    have hge : ((runA v h1).1).length ≤ i2 := List.drop_eq_nil_iff.1 hd
    have hc : (decide (((i2 : Nat) : Int) < (((List.map Send.av ((runA v h1).1)).length : Nat) : Int))) = false := by rw [List.length_map]; exact decide_eq_false (by omega)
    refine AR.seg hG hm 3 [0, 5, 9, 11, 57] (k' := [.code [1, 1, 1, 1, 1, 1, 1, 0, 1, 0, 0, 0, 1], .code [1, 1, 1, 1, 1, 1, 1, 0, 1, 0, 0, 1], .loop [1, 1, 1, 1, 1, 1, 1, 0, 1, 0], .blk 2, .code [1, 1, 1, 1, 1, 1, 1, 1]]) (t' := [(0, .sl 5 (List.map (intA .u8) ports) f_ports), (5, .ptr 0 0 none), (9, .sl 59 (List.map Send.av ((runA v h1).1)) false), (11, .sc (.int .i64 ((i2 : Nat) : Int))), (57, .sc (.bool (decide (((i2 : Nat) : Int) < (((List.map Send.av ((runA v h1).1)).length : Nat) : Int)))))]) (h' := [.box 43 [.arr .u64 12 h1], .row 53 (List.map Act.av v) 1000000 false]) (by kernel_rfl) ?_
    refine AR.cond (.tmp 57) (decide (((i2 : Nat) : Int) < (((List.map Send.av ((runA v h1).1)).length : Nat) : Int))) (by kernel_rfl) (by kernel_rfl) (fun hb => ?ht35) (fun hb => ?hf35)
    case ht35 => exact absurd (hb.symm.trans hc) (by decide)
    case hf35 =>
      refine AR.seg hG hm 1 [] (k' := [.code [1, 1, 1, 1, 1, 1, 1, 1]]) (t' := []) (h' := [.box 43 [.arr .u64 12 h1], .row 53 (List.map Act.av v) 1000000 false]) (by kernel_rfl) ?_
      refine AR.keep [] (t' := []) (by kernel_rfl) ?_
      exact J () (Option.some.inj H).symm
  | cons x2 rest ih =>
    intro i2 hd  H
    rw [podestalaw04_ActPlain_l2s] at H
    refine AR.facts 9 rfl fun hf => ?_
    have hlen : ((runA v h1).1).length ≤ 9223372036854775807 := by have hq := len_ok hf.2.1; rw [List.length_map] at hq; exact hq
    obtain ⟨hlt, hv_i2, hd2⟩ := drop_cons hd
    have hc : (decide (((i2 : Nat) : Int) < (((List.map Send.av ((runA v h1).1)).length : Nat) : Int))) = true := by rw [List.length_map]; exact decide_eq_true (by omega)
    have hw : IntKind.i64.wrap (((i2 : Nat) : Int) + 1) = ((i2 + 1 : Nat) : Int) := wrapI_succ (by omega)
    refine AR.seg hG hm 3 [0, 5, 9, 11, 57] (k' := [.code [1, 1, 1, 1, 1, 1, 1, 0, 1, 0, 0, 0, 1], .code [1, 1, 1, 1, 1, 1, 1, 0, 1, 0, 0, 1], .loop [1, 1, 1, 1, 1, 1, 1, 0, 1, 0], .blk 2, .code [1, 1, 1, 1, 1, 1, 1, 1]]) (t' := [(0, .sl 5 (List.map (intA .u8) ports) f_ports), (5, .ptr 0 0 none), (9, .sl 59 (List.map Send.av ((runA v h1).1)) false), (11, .sc (.int .i64 ((i2 : Nat) : Int))), (57, .sc (.bool (decide (((i2 : Nat) : Int) < (((List.map Send.av ((runA v h1).1)).length : Nat) : Int)))))]) (h' := [.box 43 [.arr .u64 12 h1], .row 53 (List.map Act.av v) 1000000 false]) (by kernel_rfl) ?_
    refine AR.cond (.tmp 57) (decide (((i2 : Nat) : Int) < (((List.map Send.av ((runA v h1).1)).length : Nat) : Int))) (by kernel_rfl) (by kernel_rfl) (fun hb => ?ht36) (fun hb => ?hf36)
    case ht36 =>
      refine AR.seg hG hm 4 [0, 5, 9, 11] (k' := [.code [1, 1, 1, 1, 1, 1, 1, 0, 1, 0, 0, 1, 0, 0, 0], .code [1, 1, 1, 1, 1, 1, 1, 0, 1, 0, 0, 1, 0, 0, 1], .blk 3, .code [1, 1, 1, 1, 1, 1, 1, 0, 1, 0, 0, 1, 1], .loop [1, 1, 1, 1, 1, 1, 1, 0, 1, 0], .blk 2, .code [1, 1, 1, 1, 1, 1, 1, 1]]) (t' := [(0, .sl 5 (List.map (intA .u8) ports) f_ports), (5, .ptr 0 0 none), (9, .sl 59 (List.map Send.av ((runA v h1).1)) false), (11, .sc (.int .i64 ((i2 : Nat) : Int)))]) (h' := [.box 43 [.arr .u64 12 h1], .row 53 (List.map Act.av v) 1000000 false]) (by kernel_rfl) ?_
      refine AR.reg hm podestalaw04_ActPlain_k9 (by kernel_rfl) ?_
      refine DK.seg hG 2 [0, 5, 9, 11, 60, 61] (t' := [(0, .sl 5 (List.map (intA .u8) ports) f_ports), (5, .ptr 0 0 none), (9, .sl 59 (List.map Send.av ((runA v h1).1)) false), (11, .sc (.int .i64 ((i2 : Nat) : Int))), (60, .sl 59 (List.map Send.av ((runA v h1).1)) false), (61, .sc (.int .i64 ((i2 : Nat) : Int)))]) (h' := [.box 43 [.arr .u64 12 h1], .row 53 (List.map Act.av v) 1000000 false]) (by kernel_rfl) rfl ?_
      refine DK.op' [0, 5, 9, 11, 62] (t' := [(0, .sl 5 (List.map (intA .u8) ports) f_ports), (5, .ptr 0 0 none), (9, .sl 59 (List.map Send.av ((runA v h1).1)) false), (11, .sc (.int .i64 ((i2 : Nat) : Int))), (62, .ep [.sc (.int .i64 x2.Port), .arr .u64 12 x2.Head] 0 none)]) (h' := [.box 43 [.arr .u64 12 h1], .row 53 (List.map Act.av v) 1000000 false]) (LSpec.index' (r := Send.av x2) (fs := [.sc (.int .i64 x2.Port), .arr .u64 12 x2.Head]) hG (rows := List.map Send.av ((runA v h1).1)) (j := ((i2 : Nat) : Int)) (by kernel_rfl) (ixO_map hv_i2 _) (by kernel_rfl)) (by kernel_rfl) rfl (by kernel_rfl) rfl ?_
      refine DK.seg hG 4 [0, 5, 9, 11, 64, 65, 66] (t' := [(0, .sl 5 (List.map (intA .u8) ports) f_ports), (5, .ptr 0 0 none), (9, .sl 59 (List.map Send.av ((runA v h1).1)) false), (11, .sc (.int .i64 ((i2 : Nat) : Int))), (64, .sc (.int .i64 x2.Port)), (65, .sl 5 (List.map (intA .u8) ports) f_ports), (66, .sc (.int .i64 ((i2 : Nat) : Int)))]) (h' := [.box 43 [.arr .u64 12 h1], .row 53 (List.map Act.av v) 1000000 false]) (by kernel_rfl) rfl ?_
      obtain ⟨x3, hv, H⟩ := Option.bind_eq_some_iff.1 H
      refine DK.op' [0, 5, 9, 11, 64, 67] (t' := [(0, .sl 5 (List.map (intA .u8) ports) f_ports), (5, .ptr 0 0 none), (9, .sl 59 (List.map Send.av ((runA v h1).1)) false), (11, .sc (.int .i64 ((i2 : Nat) : Int))), (64, .sc (.int .i64 x2.Port)), (67, .ep [.sc (.int .u8 x3)] 0 none)]) (h' := [.box 43 [.arr .u64 12 h1], .row 53 (List.map Act.av v) 1000000 false]) (LSpec.index' (r := .sc (.int .u8 x3)) (fs := [.sc (.int .u8 x3)]) hG (rows := List.map (intA .u8) ports) (j := ((i2 : Nat) : Int)) (by kernel_rfl) (ixO_map hv _) (by kernel_rfl)) (by kernel_rfl) rfl (by kernel_rfl) rfl ?_
      refine DK.seg hG 1 [0, 5, 9, 11, 64, 68] (t' := [(0, .sl 5 (List.map (intA .u8) ports) f_ports), (5, .ptr 0 0 none), (9, .sl 59 (List.map Send.av ((runA v h1).1)) false), (11, .sc (.int .i64 ((i2 : Nat) : Int))), (64, .sc (.int .i64 x2.Port)), (68, .sc (.int .u8 x3))]) (h' := [.box 43 [.arr .u64 12 h1], .row 53 (List.map Act.av v) 1000000 false]) (by kernel_rfl) rfl ?_
      refine DK.op' [0, 5, 9, 11, 64, 69] (t' := [(0, .sl 5 (List.map (intA .u8) ports) f_ports), (5, .ptr 0 0 none), (9, .sl 59 (List.map Send.av ((runA v h1).1)) false), (11, .sc (.int .i64 ((i2 : Nat) : Int))), (64, .sc (.int .i64 x2.Port)), (69, .sc (.int .u8 (Int.tmod x3 16)))]) (h' := [.box 43 [.arr .u64 12 h1], .row 53 (List.map Act.av v) 1000000 false]) (LSpec.rem (k := .u8) (a := x3) (b := 16) (by decide) (by kernel_rfl)) (by kernel_rfl) rfl (by kernel_rfl) rfl ?_
      refine DK.seg hG 4 [0, 5, 9, 11, 73] (t' := [(0, .sl 5 (List.map (intA .u8) ports) f_ports), (5, .ptr 0 0 none), (9, .sl 59 (List.map Send.av ((runA v h1).1)) false), (11, .sc (.int .i64 ((i2 : Nat) : Int))), (73, .sc (.bool (x2.Port != (IntKind.i64.wrap (1 + (IntKind.i64.wrap (Int.tmod x3 16)))))))]) (h' := [.box 43 [.arr .u64 12 h1], .row 53 (List.map Act.av v) 1000000 false]) (by kernel_rfl) rfl ?_
      refine DK.mux 73 (x2.Port != (IntKind.i64.wrap (1 + (IntKind.i64.wrap (Int.tmod x3 16))))) (j := 22) (h' := [.box 43 [.arr .u64 12 h1], .row 53 (List.map Act.av v) 1000000 false]) (by kernel_rfl) (fun z => [(0, .sl 5 (List.map (intA .u8) ports) f_ports), (5, .ptr 0 0 none), (9, .sl 59 (List.map Send.av ((runA v h1).1)) false), (11, .sc (.int .i64 ((i2 : Nat) : Int))), (81, .sc (.bool (z || (!(x2.Head == h1)))))]) ?J37 (fun hb J => ?ht37) (fun hb J => ?hf37)
      case ht37 =>
        exact DK.seg hG 8 [0, 5, 9, 11, 81] (by kernel_rfl) rfl J
      case hf37 =>
        refine DK.seg hG 2 [0, 5, 9, 11, 73, 74, 75] (t' := [(0, .sl 5 (List.map (intA .u8) ports) f_ports), (5, .ptr 0 0 none), (9, .sl 59 (List.map Send.av ((runA v h1).1)) false), (11, .sc (.int .i64 ((i2 : Nat) : Int))), (73, .sc (.bool false)), (74, .sl 59 (List.map Send.av ((runA v h1).1)) false), (75, .sc (.int .i64 ((i2 : Nat) : Int)))]) (h' := [.box 43 [.arr .u64 12 h1], .row 53 (List.map Act.av v) 1000000 false]) (by kernel_rfl) rfl ?_
        refine DK.op' [0, 5, 9, 11, 73, 76] (t' := [(0, .sl 5 (List.map (intA .u8) ports) f_ports), (5, .ptr 0 0 none), (9, .sl 59 (List.map Send.av ((runA v h1).1)) false), (11, .sc (.int .i64 ((i2 : Nat) : Int))), (73, .sc (.bool false)), (76, .ep [.sc (.int .i64 x2.Port), .arr .u64 12 x2.Head] 0 none)]) (h' := [.box 43 [.arr .u64 12 h1], .row 53 (List.map Act.av v) 1000000 false]) (LSpec.index' (r := Send.av x2) (fs := [.sc (.int .i64 x2.Port), .arr .u64 12 x2.Head]) hG (rows := List.map Send.av ((runA v h1).1)) (j := ((i2 : Nat) : Int)) (by kernel_rfl) (ixO_map hv_i2 _) (by kernel_rfl)) (by kernel_rfl) rfl (by kernel_rfl) rfl ?_
        refine DK.seg hG 3 [0, 5, 9, 11, 73, 78, 79] (t' := [(0, .sl 5 (List.map (intA .u8) ports) f_ports), (5, .ptr 0 0 none), (9, .sl 59 (List.map Send.av ((runA v h1).1)) false), (11, .sc (.int .i64 ((i2 : Nat) : Int))), (73, .sc (.bool false)), (78, .arr .u64 12 x2.Head), (79, .arr .u64 12 h1)]) (h' := [.box 43 [.arr .u64 12 h1], .row 53 (List.map Act.av v) 1000000 false]) (by kernel_rfl) rfl ?_
        refine DK.op' [0, 5, 9, 11, 73, 80] (t' := [(0, .sl 5 (List.map (intA .u8) ports) f_ports), (5, .ptr 0 0 none), (9, .sl 59 (List.map Send.av ((runA v h1).1)) false), (11, .sc (.int .i64 ((i2 : Nat) : Int))), (73, .sc (.bool false)), (80, .sc (.bool (!(x2.Head == h1))))]) (h' := [.box 43 [.arr .u64 12 h1], .row 53 (List.map Act.av v) 1000000 false]) (LSpec.eq' 9 (r := (!(x2.Head == h1))) (by kernel_rfl)) (by kernel_rfl) rfl (by kernel_rfl) rfl ?_
        exact DK.seg hG 1 [0, 5, 9, 11, 81] (by kernel_rfl) rfl J
      refine DK.done (by kernel_rfl) (by kernel_rfl) ?_
      refine AR.cond (.tmp 81) ((x2.Port != (IntKind.i64.wrap (1 + (IntKind.i64.wrap (Int.tmod x3 16))))) || (!(x2.Head == h1))) (by kernel_rfl) (by kernel_rfl) (fun hb => ?ht38) (fun hb => ?hf38)
      case ht38 =>
        replace H := cond_t hb H
        refine AR.seg hG hm 2 [6] (k' := [.code [1, 1, 1, 1, 1, 1, 1, 0, 1, 0, 0, 1, 0, 0, 1, 0, 1], .blk 3, .code [1, 1, 1, 1, 1, 1, 1, 0, 1, 0, 0, 1, 1], .loop [1, 1, 1, 1, 1, 1, 1, 0, 1, 0], .blk 2, .code [1, 1, 1, 1, 1, 1, 1, 1]]) (t' := [(6, .sc (.bool false))]) (h' := [.box 43 [.arr .u64 12 h1], .row 53 (List.map Act.av v) 1000000 false]) (by kernel_rfl) ?_
        obtain rfl := Option.some.inj H
        obtain rfl := Jr _ rfl
        exact AR.ret0 (fn := Try.f9) hG Try.func9 (by kernel_rfl) hc0 (r0 := .sc (.bool false)) (by kernel_rfl) (WkV.refl _)
      case hf38 =>
        replace H := cond_f hb H
        refine AR.seg hG hm 3 [0, 5, 9, 11] (k' := [.loop [1, 1, 1, 1, 1, 1, 1, 0, 1, 0], .blk 2, .code [1, 1, 1, 1, 1, 1, 1, 1]]) (t' := [(0, .sl 5 (List.map (intA .u8) ports) f_ports), (5, .ptr 0 0 none), (9, .sl 59 (List.map Send.av ((runA v h1).1)) false), (11, .sc (.int .i64 (IntKind.i64.wrap (((i2 : Nat) : Int) + 1))))]) (h' := [.box 43 [.arr .u64 12 h1], .row 53 (List.map Act.av v) 1000000 false]) (by kernel_rfl) ?_
        refine AR.keep [0, 5, 9, 11] (t' := [(0, .sl 5 (List.map (intA .u8) ports) f_ports), (5, .ptr 0 0 none), (9, .sl 59 (List.map Send.av ((runA v h1).1)) false), (11, .sc (.int .i64 (IntKind.i64.wrap (((i2 : Nat) : Int) + 1))))]) (by kernel_rfl) ?_
        refine AR.loop_round ?_
        rw [hw]
        exact ih (i2 + 1) hd2 H
    case hf36 => exact absurd (hc.symm.trans hb) (by decide)

def podestalaw04_ActPlain_raw (ports : List Int) (tells : Bool) (h1 : List Int) : Option (Bool) :=
  (bif (decide ((((List.map (intA .u8) ports).length : Nat) : Int) > 7)) then
    some true
  else
    (podestalaw04_ActPlain_l0s ports ([] : List Act)).bind fun v =>
    (bif tells then
      fitO (v.length + [({ Kind := 3, Port := 0, Field := 0, Value := 0 } : Act)].length) 32 (
      (bif (((((List.map Send.av ((runA (v ++ [({ Kind := 3, Port := 0, Field := 0, Value := 0 } : Act)]) h1).1)).length : Nat) : Int) != (((List.map (intA .u8) ports).length : Nat) : Int)) || ((runA (v ++ [({ Kind := 3, Port := 0, Field := 0, Value := 0 } : Act)]) h1).2 != tells)) then
        some false
      else
        loopO (podestalaw04_ActPlain_l1s ports h1 ((runA (v ++ [({ Kind := 3, Port := 0, Field := 0, Value := 0 } : Act)]) h1).1) 0) fun v1 =>
        some true))
    else
      (bif (((((List.map Send.av ((runA v h1).1)).length : Nat) : Int) != (((List.map (intA .u8) ports).length : Nat) : Int)) || ((runA v h1).2 != tells)) then
        some false
      else
        loopO (podestalaw04_ActPlain_l2s ports h1 ((runA v h1).1) 0) fun v2 =>
        some true)))
theorem podestalaw04_ActPlain_walk (ports : List Int) (tells : Bool) (h1 : List Int) (f_ports : Bool) (r : Bool) (H : podestalaw04_ActPlain_raw ports tells h1 = some r) :
    ACalls Try.prog tab.S 9 [.sl 5 (List.map (intA .u8) ports) f_ports, .sc (.bool tells), .arr .u64 12 h1] [] (.sc (.bool r)) [] := by
  have hG := tab_ok
  have hm := mixed
  refine ACalls.of_AR (G := tab) podestalaw04_ActPlain_F (fn := Try.f9) Try.func9 (by kernel_rfl) (by kernel_rfl) (by kernel_rfl) (Nat.le_of_ble_eq_true (by kernel_rfl)) ?_
  intro c0 hc0
  replace hc0 : c0.m.length = 0 := hc0
  rw [podestalaw04_ActPlain_raw] at H
  refine AR.seg hG hm 5 [0, 1, 5, 14] (k' := [.code [1, 0, 1], .code [1, 1]]) (t' := [(0, .sl 5 (List.map (intA .u8) ports) f_ports), (1, .sc (.bool tells)), (5, .ptr 0 0 none), (14, .sc (.bool (decide ((((List.map (intA .u8) ports).length : Nat) : Int) > 7))))]) (h' := [.box 43 [.arr .u64 12 h1]]) (by kernel_rfl) ?_
  refine AR.cond (.tmp 14) (decide ((((List.map (intA .u8) ports).length : Nat) : Int) > 7)) (by kernel_rfl) (by kernel_rfl) (fun hb => ?ht1) (fun hb => ?hf1)
  case ht1 =>
    replace H := cond_t hb H
    refine AR.seg hG hm 1 [] (k' := [.code [1, 0, 1, 0, 0], .code [1, 0, 1, 0, 1], .code [1, 1]]) (t' := []) (h' := [.box 43 [.arr .u64 12 h1]]) (by kernel_rfl) ?_
    refine AR.reg hm podestalaw04_ActPlain_k0 (by kernel_rfl) ?_
    refine DK.op' [15] (t' := [(15, .sc (.bool true))]) (h' := [.box 43 [.arr .u64 12 h1]]) (LSpec.callP' (podestalaw04_answers_ok) (by kernel_rfl)) (by kernel_rfl) rfl (by kernel_rfl) rfl ?_
    refine DK.seg hG 1 [6] (t' := [(6, .sc (.bool true))]) (h' := [.box 43 [.arr .u64 12 h1]]) (by kernel_rfl) rfl ?_
    refine DK.done (by kernel_rfl) (by kernel_rfl) ?_
    obtain rfl := Option.some.inj H
    exact AR.ret0 (fn := Try.f9) hG Try.func9 (by kernel_rfl) hc0 (r0 := .sc (.bool true)) (by kernel_rfl) (WkV.refl _)
  case hf1 =>
    replace H := cond_f hb H
    refine AR.seg hG hm 7 [0, 1, 5, 7, 8] (k' := [.code [1, 1, 1, 0, 1, 0], .blk 0, .code [1, 1, 1, 1]]) (t' := [(0, .sl 5 (List.map (intA .u8) ports) f_ports), (1, .sc (.bool tells)), (5, .ptr 0 0 none), (7, .sl 0 [] true), (8, .sc (.int .i64 0))]) (h' := [.box 43 [.arr .u64 12 h1]]) (by kernel_rfl) ?_
    refine AR.adoptB' 7 53 (t' := [(7, .own 1 1000000), (0, .sl 5 (List.map (intA .u8) ports) f_ports), (1, .sc (.bool tells)), (5, .ptr 0 0 none), (8, .sc (.int .i64 0))]) (h' := [.box 43 [.arr .u64 12 h1], .row 53 (List.map Act.av ([] : List Act)) 1000000 true]) (by kernel_rfl) ?_
    refine AR.keep [0, 1, 5, 7, 8] (t' := [(0, .sl 5 (List.map (intA .u8) ports) f_ports), (1, .sc (.bool tells)), (5, .ptr 0 0 none), (7, .own 1 1000000), (8, .sc (.int .i64 0))]) (by kernel_rfl) ?_
    obtain ⟨v, hv, H⟩ := Option.bind_eq_some_iff.1 H
    refine AR.into (by kernel_rfl) ?_
    refine podestalaw04_ActPlain_l0_walk ports tells h1 f_ports r c0 hc0 v ?_ ports 0 rfl ([] : List Act) hv
    refine AR.seg hG hm 3 [0, 1, 5, 7, 33] (k' := [.code [1, 1, 1, 1, 0, 1], .code [1, 1, 1, 1, 1]]) (t' := [(0, .sl 5 (List.map (intA .u8) ports) f_ports), (1, .sc (.bool tells)), (5, .ptr 0 0 none), (7, .own 1 1000000), (33, .sc (.bool tells))]) (h' := [.box 43 [.arr .u64 12 h1], .row 53 (List.map Act.av v) 1000000 true]) (by kernel_rfl) ?_
    refine AR.cond (.tmp 33) tells (by kernel_rfl) (by kernel_rfl) (fun hb => ?ht8) (fun hb => ?hf8)
    case ht8 =>
      replace H := cond_t hb H
      refine AR.reg hm podestalaw04_ActPlain_k2 (by kernel_rfl) ?_
      refine DK.seg hG 3 [0, 1, 5, 34, 36] (t' := [(0, .sl 5 (List.map (intA .u8) ports) f_ports), (1, .sc (.bool tells)), (5, .ptr 0 0 none), (34, .own 1 1000000), (36, .sl 53 (List.map Act.av [({ Kind := 3, Port := 0, Field := 0, Value := 0 } : Act)]) true)]) (h' := [.box 43 [.arr .u64 12 h1], .row 53 (List.map Act.av v) 1000000 true]) (by kernel_rfl) rfl ?_
      obtain ⟨hfit, H⟩ := fitO_some H
      refine DK.op' [0, 1, 5, 37] (t' := [(0, .sl 5 (List.map (intA .u8) ports) f_ports), (1, .sc (.bool tells)), (5, .ptr 0 0 none), (37, .own 1 1000001)]) (h' := [.box 43 [.arr .u64 12 h1], .row 53 (List.map Act.av (v ++ [({ Kind := 3, Port := 0, Field := 0, Value := 0 } : Act)])) 1000001 true]) (LSpec.append' hG Act.av v [({ Kind := 3, Port := 0, Field := 0, Value := 0 } : Act)] 1 1000000 53 32 hfit (by kernel_rfl)) (by kernel_rfl) (by kernel_rfl) (by kernel_rfl) rfl ?_
      refine DK.seg hG 1 [0, 1, 5, 7] (t' := [(0, .sl 5 (List.map (intA .u8) ports) f_ports), (1, .sc (.bool tells)), (5, .ptr 0 0 none), (7, .own 1 1000001)]) (h' := [.box 43 [.arr .u64 12 h1], .row 53 (List.map Act.av (v ++ [({ Kind := 3, Port := 0, Field := 0, Value := 0 } : Act)])) 1000001 true]) (by kernel_rfl) rfl ?_
      refine DK.done (by kernel_rfl) (by kernel_rfl) ?_
      refine AR.seg hG hm 1 [0, 1, 5, 7] (k' := [.code [1, 1, 1, 1, 1, 0], .code [1, 1, 1, 1, 1, 1]]) (t' := [(0, .sl 5 (List.map (intA .u8) ports) f_ports), (1, .sc (.bool tells)), (5, .ptr 0 0 none), (7, .own 1 1000001)]) (h' := [.box 43 [.arr .u64 12 h1], .row 53 (List.map Act.av (v ++ [({ Kind := 3, Port := 0, Field := 0, Value := 0 } : Act)])) 1000001 true]) (by kernel_rfl) ?_
      refine AR.reg hm podestalaw04_ActPlain_k3 (by kernel_rfl) ?_
      refine DK.seg hG 2 [0, 1, 5, 39, 40] (t' := [(0, .sl 5 (List.map (intA .u8) ports) f_ports), (1, .sc (.bool tells)), (5, .ptr 0 0 none), (39, .own 1 1000001), (40, .arr .u64 12 h1)]) (h' := [.box 43 [.arr .u64 12 h1], .row 53 (List.map Act.av (v ++ [({ Kind := 3, Port := 0, Field := 0, Value := 0 } : Act)])) 1000001 true]) (by kernel_rfl) rfl ?_
      refine DK.op' [0, 1, 5, 41] (t' := [(0, .sl 5 (List.map (intA .u8) ports) f_ports), (1, .sc (.bool tells)), (5, .ptr 0 0 none), (41, .tup [.sl 59 (List.map Send.av ((runA (v ++ [({ Kind := 3, Port := 0, Field := 0, Value := 0 } : Act)]) h1).1)) false, .sc (.bool ((runA (v ++ [({ Kind := 3, Port := 0, Field := 0, Value := 0 } : Act)]) h1).2))])]) (h' := [.box 43 [.arr .u64 12 h1], .row 53 (List.map Act.av (v ++ [({ Kind := 3, Port := 0, Field := 0, Value := 0 } : Act)])) 1000001 false]) (LSpec.callC' [1] (act_Run_ok (v ++ [({ Kind := 3, Port := 0, Field := 0, Value := 0 } : Act)]) h1 false) (by kernel_rfl) (by kernel_rfl)) (by kernel_rfl) (by kernel_rfl) (by kernel_rfl) rfl ?_
      refine DK.seg hG 5 [0, 1, 5, 9, 10] (t' := [(0, .sl 5 (List.map (intA .u8) ports) f_ports), (1, .sc (.bool tells)), (5, .ptr 0 0 none), (9, .sl 59 (List.map Send.av ((runA (v ++ [({ Kind := 3, Port := 0, Field := 0, Value := 0 } : Act)]) h1).1)) false), (10, .sc (.bool ((runA (v ++ [({ Kind := 3, Port := 0, Field := 0, Value := 0 } : Act)]) h1).2)))]) (h' := [.box 43 [.arr .u64 12 h1], .row 53 (List.map Act.av (v ++ [({ Kind := 3, Port := 0, Field := 0, Value := 0 } : Act)])) 1000001 false]) (by kernel_rfl) rfl ?_
      refine DK.done (by kernel_rfl) (by kernel_rfl) ?_
      refine AR.seg hG hm 2 [0, 1, 5, 9, 10] (k' := [.code [1, 1, 1, 1, 1, 1, 0, 0], .code [1, 1, 1, 1, 1, 1, 0, 1], .code [1, 1, 1, 1, 1, 1, 1]]) (t' := [(0, .sl 5 (List.map (intA .u8) ports) f_ports), (1, .sc (.bool tells)), (5, .ptr 0 0 none), (9, .sl 59 (List.map Send.av ((runA (v ++ [({ Kind := 3, Port := 0, Field := 0, Value := 0 } : Act)]) h1).1)) false), (10, .sc (.bool ((runA (v ++ [({ Kind := 3, Port := 0, Field := 0, Value := 0 } : Act)]) h1).2)))]) (h' := [.box 43 [.arr .u64 12 h1], .row 53 (List.map Act.av (v ++ [({ Kind := 3, Port := 0, Field := 0, Value := 0 } : Act)])) 1000001 false]) (by kernel_rfl) ?_
      refine AR.reg hm podestalaw04_ActPlain_k4 (by kernel_rfl) ?_
      refine DK.seg hG 6 [0, 1, 5, 9, 10, 49] (t' := [(0, .sl 5 (List.map (intA .u8) ports) f_ports), (1, .sc (.bool tells)), (5, .ptr 0 0 none), (9, .sl 59 (List.map Send.av ((runA (v ++ [({ Kind := 3, Port := 0, Field := 0, Value := 0 } : Act)]) h1).1)) false), (10, .sc (.bool ((runA (v ++ [({ Kind := 3, Port := 0, Field := 0, Value := 0 } : Act)]) h1).2))), (49, .sc (.bool ((((List.map Send.av ((runA (v ++ [({ Kind := 3, Port := 0, Field := 0, Value := 0 } : Act)]) h1).1)).length : Nat) : Int) != (((List.map (intA .u8) ports).length : Nat) : Int))))]) (h' := [.box 43 [.arr .u64 12 h1], .row 53 (List.map Act.av (v ++ [({ Kind := 3, Port := 0, Field := 0, Value := 0 } : Act)])) 1000001 false]) (by kernel_rfl) rfl ?_
      refine DK.mux 49 ((((List.map Send.av ((runA (v ++ [({ Kind := 3, Port := 0, Field := 0, Value := 0 } : Act)]) h1).1)).length : Nat) : Int) != (((List.map (intA .u8) ports).length : Nat) : Int)) (j := 10) (h' := [.box 43 [.arr .u64 12 h1], .row 53 (List.map Act.av (v ++ [({ Kind := 3, Port := 0, Field := 0, Value := 0 } : Act)])) 1000001 false]) (by kernel_rfl) (fun z => [(0, .sl 5 (List.map (intA .u8) ports) f_ports), (5, .ptr 0 0 none), (9, .sl 59 (List.map Send.av ((runA (v ++ [({ Kind := 3, Port := 0, Field := 0, Value := 0 } : Act)]) h1).1)) false), (53, .sc (.bool (z || ((runA (v ++ [({ Kind := 3, Port := 0, Field := 0, Value := 0 } : Act)]) h1).2 != tells))))]) ?J9 (fun hb J => ?ht9) (fun hb J => ?hf9)
      case ht9 =>
        exact DK.seg hG 4 [0, 5, 9, 53] (by kernel_rfl) rfl J
      case hf9 =>
        exact DK.seg hG 4 [0, 5, 9, 53] (by kernel_rfl) rfl J
      refine DK.done (by kernel_rfl) (by kernel_rfl) ?_
      refine AR.cond (.tmp 53) (((((List.map Send.av ((runA (v ++ [({ Kind := 3, Port := 0, Field := 0, Value := 0 } : Act)]) h1).1)).length : Nat) : Int) != (((List.map (intA .u8) ports).length : Nat) : Int)) || ((runA (v ++ [({ Kind := 3, Port := 0, Field := 0, Value := 0 } : Act)]) h1).2 != tells)) (by kernel_rfl) (by kernel_rfl) (fun hb => ?ht10) (fun hb => ?hf10)
      case ht10 =>
        replace H := cond_t hb H
        refine AR.seg hG hm 2 [6] (k' := [.code [1, 1, 1, 1, 1, 1, 0, 1, 0, 1], .code [1, 1, 1, 1, 1, 1, 1]]) (t' := [(6, .sc (.bool false))]) (h' := [.box 43 [.arr .u64 12 h1], .row 53 (List.map Act.av (v ++ [({ Kind := 3, Port := 0, Field := 0, Value := 0 } : Act)])) 1000001 false]) (by kernel_rfl) ?_
        obtain rfl := Option.some.inj H
        exact AR.ret0 (fn := Try.f9) hG Try.func9 (by kernel_rfl) hc0 (r0 := .sc (.bool false)) (by kernel_rfl) (WkV.refl _)
      case hf10 =>
        replace H := cond_f hb H
        refine AR.seg hG hm 5 [0, 5, 9, 11] (k' := [.code [1, 1, 1, 1, 1, 1, 1, 0, 1, 0], .blk 2, .code [1, 1, 1, 1, 1, 1, 1, 1]]) (t' := [(0, .sl 5 (List.map (intA .u8) ports) f_ports), (5, .ptr 0 0 none), (9, .sl 59 (List.map Send.av ((runA (v ++ [({ Kind := 3, Port := 0, Field := 0, Value := 0 } : Act)]) h1).1)) false), (11, .sc (.int .i64 0))]) (h' := [.box 43 [.arr .u64 12 h1], .row 53 (List.map Act.av (v ++ [({ Kind := 3, Port := 0, Field := 0, Value := 0 } : Act)])) 1000001 false]) (by kernel_rfl) ?_
        refine AR.norm' 1 1000000 hc0 (t' := [(0, .sl 5 (List.map (intA .u8) ports) f_ports), (5, .ptr 0 0 none), (9, .sl 59 (List.map Send.av ((runA (v ++ [({ Kind := 3, Port := 0, Field := 0, Value := 0 } : Act)]) h1).1)) false), (11, .sc (.int .i64 0))]) (h' := [.box 43 [.arr .u64 12 h1], .row 53 (List.map Act.av (v ++ [({ Kind := 3, Port := 0, Field := 0, Value := 0 } : Act)])) 1000000 false]) (by kernel_rfl) ?_
        rcases loopO_some H with ⟨v1, hv, H⟩ | hv
        case inr =>
          refine AR.into (by kernel_rfl) ?_
          exact podestalaw04_ActPlain_l1_walk ports tells h1 v f_ports _ c0 hc0 (.inr _) (fun _ e => by cases e) (fun _ e => (Sum.inr.inj e).symm) ((runA (v ++ [({ Kind := 3, Port := 0, Field := 0, Value := 0 } : Act)]) h1).1) 0 rfl hv
        refine AR.into (by kernel_rfl) ?_
        refine podestalaw04_ActPlain_l1_walk ports tells h1 v f_ports r c0 hc0 (.inl v1) (fun w e => ?_) (fun _ e => by cases e) ((runA (v ++ [({ Kind := 3, Port := 0, Field := 0, Value := 0 } : Act)]) h1).1) 0 rfl hv
        have e := Sum.inl.inj e
        subst e
        refine AR.seg hG hm 1 [] (k' := [.code [1, 1, 1, 1, 1, 1, 1, 1, 0], .code [1, 1, 1, 1, 1, 1, 1, 1, 1]]) (t' := []) (h' := [.box 43 [.arr .u64 12 h1], .row 53 (List.map Act.av (v ++ [({ Kind := 3, Port := 0, Field := 0, Value := 0 } : Act)])) 1000000 false]) (by kernel_rfl) ?_
        refine AR.reg hm podestalaw04_ActPlain_k6 (by kernel_rfl) ?_
        refine DK.op' [82] (t' := [(82, .sc (.bool true))]) (h' := [.box 43 [.arr .u64 12 h1], .row 53 (List.map Act.av (v ++ [({ Kind := 3, Port := 0, Field := 0, Value := 0 } : Act)])) 1000000 false]) (LSpec.callP' (podestalaw04_answers_ok) (by kernel_rfl)) (by kernel_rfl) rfl (by kernel_rfl) rfl ?_
        refine DK.seg hG 1 [6] (t' := [(6, .sc (.bool true))]) (h' := [.box 43 [.arr .u64 12 h1], .row 53 (List.map Act.av (v ++ [({ Kind := 3, Port := 0, Field := 0, Value := 0 } : Act)])) 1000000 false]) (by kernel_rfl) rfl ?_
        refine DK.done (by kernel_rfl) (by kernel_rfl) ?_
        obtain rfl := Option.some.inj H
        exact AR.ret0 (fn := Try.f9) hG Try.func9 (by kernel_rfl) hc0 (r0 := .sc (.bool true)) (by kernel_rfl) (WkV.refl _)
    case hf8 =>
      replace H := cond_f hb H
      refine AR.seg hG hm 2 [0, 1, 5, 7] (k' := [.code [1, 1, 1, 1, 1, 0], .code [1, 1, 1, 1, 1, 1]]) (t' := [(0, .sl 5 (List.map (intA .u8) ports) f_ports), (1, .sc (.bool tells)), (5, .ptr 0 0 none), (7, .own 1 1000000)]) (h' := [.box 43 [.arr .u64 12 h1], .row 53 (List.map Act.av v) 1000000 true]) (by kernel_rfl) ?_
      refine AR.reg hm podestalaw04_ActPlain_k7 (by kernel_rfl) ?_
      refine DK.seg hG 2 [0, 1, 5, 39, 40] (t' := [(0, .sl 5 (List.map (intA .u8) ports) f_ports), (1, .sc (.bool tells)), (5, .ptr 0 0 none), (39, .own 1 1000000), (40, .arr .u64 12 h1)]) (h' := [.box 43 [.arr .u64 12 h1], .row 53 (List.map Act.av v) 1000000 true]) (by kernel_rfl) rfl ?_
      refine DK.op' [0, 1, 5, 41] (t' := [(0, .sl 5 (List.map (intA .u8) ports) f_ports), (1, .sc (.bool tells)), (5, .ptr 0 0 none), (41, .tup [.sl 59 (List.map Send.av ((runA v h1).1)) false, .sc (.bool ((runA v h1).2))])]) (h' := [.box 43 [.arr .u64 12 h1], .row 53 (List.map Act.av v) 1000000 false]) (LSpec.callC' [1] (act_Run_ok v h1 false) (by kernel_rfl) (by kernel_rfl)) (by kernel_rfl) (by kernel_rfl) (by kernel_rfl) rfl ?_
      refine DK.seg hG 5 [0, 1, 5, 9, 10] (t' := [(0, .sl 5 (List.map (intA .u8) ports) f_ports), (1, .sc (.bool tells)), (5, .ptr 0 0 none), (9, .sl 59 (List.map Send.av ((runA v h1).1)) false), (10, .sc (.bool ((runA v h1).2)))]) (h' := [.box 43 [.arr .u64 12 h1], .row 53 (List.map Act.av v) 1000000 false]) (by kernel_rfl) rfl ?_
      refine DK.done (by kernel_rfl) (by kernel_rfl) ?_
      refine AR.seg hG hm 2 [0, 1, 5, 9, 10] (k' := [.code [1, 1, 1, 1, 1, 1, 0, 0], .code [1, 1, 1, 1, 1, 1, 0, 1], .code [1, 1, 1, 1, 1, 1, 1]]) (t' := [(0, .sl 5 (List.map (intA .u8) ports) f_ports), (1, .sc (.bool tells)), (5, .ptr 0 0 none), (9, .sl 59 (List.map Send.av ((runA v h1).1)) false), (10, .sc (.bool ((runA v h1).2)))]) (h' := [.box 43 [.arr .u64 12 h1], .row 53 (List.map Act.av v) 1000000 false]) (by kernel_rfl) ?_
      refine AR.reg hm podestalaw04_ActPlain_k8 (by kernel_rfl) ?_
      refine DK.seg hG 6 [0, 1, 5, 9, 10, 49] (t' := [(0, .sl 5 (List.map (intA .u8) ports) f_ports), (1, .sc (.bool tells)), (5, .ptr 0 0 none), (9, .sl 59 (List.map Send.av ((runA v h1).1)) false), (10, .sc (.bool ((runA v h1).2))), (49, .sc (.bool ((((List.map Send.av ((runA v h1).1)).length : Nat) : Int) != (((List.map (intA .u8) ports).length : Nat) : Int))))]) (h' := [.box 43 [.arr .u64 12 h1], .row 53 (List.map Act.av v) 1000000 false]) (by kernel_rfl) rfl ?_
      refine DK.mux 49 ((((List.map Send.av ((runA v h1).1)).length : Nat) : Int) != (((List.map (intA .u8) ports).length : Nat) : Int)) (j := 10) (h' := [.box 43 [.arr .u64 12 h1], .row 53 (List.map Act.av v) 1000000 false]) (by kernel_rfl) (fun z => [(0, .sl 5 (List.map (intA .u8) ports) f_ports), (5, .ptr 0 0 none), (9, .sl 59 (List.map Send.av ((runA v h1).1)) false), (53, .sc (.bool (z || ((runA v h1).2 != tells))))]) ?J24 (fun hb J => ?ht24) (fun hb J => ?hf24)
      case ht24 =>
        exact DK.seg hG 4 [0, 5, 9, 53] (by kernel_rfl) rfl J
      case hf24 =>
        exact DK.seg hG 4 [0, 5, 9, 53] (by kernel_rfl) rfl J
      refine DK.done (by kernel_rfl) (by kernel_rfl) ?_
      refine AR.cond (.tmp 53) (((((List.map Send.av ((runA v h1).1)).length : Nat) : Int) != (((List.map (intA .u8) ports).length : Nat) : Int)) || ((runA v h1).2 != tells)) (by kernel_rfl) (by kernel_rfl) (fun hb => ?ht25) (fun hb => ?hf25)
      case ht25 =>
        replace H := cond_t hb H
        refine AR.seg hG hm 2 [6] (k' := [.code [1, 1, 1, 1, 1, 1, 0, 1, 0, 1], .code [1, 1, 1, 1, 1, 1, 1]]) (t' := [(6, .sc (.bool false))]) (h' := [.box 43 [.arr .u64 12 h1], .row 53 (List.map Act.av v) 1000000 false]) (by kernel_rfl) ?_
        obtain rfl := Option.some.inj H
        exact AR.ret0 (fn := Try.f9) hG Try.func9 (by kernel_rfl) hc0 (r0 := .sc (.bool false)) (by kernel_rfl) (WkV.refl _)
      case hf25 =>
        replace H := cond_f hb H
        refine AR.seg hG hm 5 [0, 5, 9, 11] (k' := [.code [1, 1, 1, 1, 1, 1, 1, 0, 1, 0], .blk 2, .code [1, 1, 1, 1, 1, 1, 1, 1]]) (t' := [(0, .sl 5 (List.map (intA .u8) ports) f_ports), (5, .ptr 0 0 none), (9, .sl 59 (List.map Send.av ((runA v h1).1)) false), (11, .sc (.int .i64 0))]) (h' := [.box 43 [.arr .u64 12 h1], .row 53 (List.map Act.av v) 1000000 false]) (by kernel_rfl) ?_
        rcases loopO_some H with ⟨v2, hv, H⟩ | hv
        case inr =>
          refine AR.into (by kernel_rfl) ?_
          exact podestalaw04_ActPlain_l2_walk ports tells h1 v f_ports _ c0 hc0 (.inr _) (fun _ e => by cases e) (fun _ e => (Sum.inr.inj e).symm) ((runA v h1).1) 0 rfl hv
        refine AR.into (by kernel_rfl) ?_
        refine podestalaw04_ActPlain_l2_walk ports tells h1 v f_ports r c0 hc0 (.inl v2) (fun w e => ?_) (fun _ e => by cases e) ((runA v h1).1) 0 rfl hv
        have e := Sum.inl.inj e
        subst e
        refine AR.seg hG hm 1 [] (k' := [.code [1, 1, 1, 1, 1, 1, 1, 1, 0], .code [1, 1, 1, 1, 1, 1, 1, 1, 1]]) (t' := []) (h' := [.box 43 [.arr .u64 12 h1], .row 53 (List.map Act.av v) 1000000 false]) (by kernel_rfl) ?_
        refine AR.reg hm podestalaw04_ActPlain_k10 (by kernel_rfl) ?_
        refine DK.op' [82] (t' := [(82, .sc (.bool true))]) (h' := [.box 43 [.arr .u64 12 h1], .row 53 (List.map Act.av v) 1000000 false]) (LSpec.callP' (podestalaw04_answers_ok) (by kernel_rfl)) (by kernel_rfl) rfl (by kernel_rfl) rfl ?_
        refine DK.seg hG 1 [6] (t' := [(6, .sc (.bool true))]) (h' := [.box 43 [.arr .u64 12 h1], .row 53 (List.map Act.av v) 1000000 false]) (by kernel_rfl) rfl ?_
        refine DK.done (by kernel_rfl) (by kernel_rfl) ?_
        obtain rfl := Option.some.inj H
        exact AR.ret0 (fn := Try.f9) hG Try.func9 (by kernel_rfl) hc0 (r0 := .sc (.bool true)) (by kernel_rfl) (WkV.refl _)

end Go.Proofs.Ytjchejmakdkioab

set_option linter.unusedVariables false
set_option linter.unusedSimpArgs false
set_option maxRecDepth 100000
set_option maxHeartbeats 4000000
namespace Go.Proofs.Ytjchejmakdkioab
open Go.Sh
theorem u64_nonneg {v : Int} (h : intW .u64 v) : 0 ≤ v := by
  unfold intW Go.Lit.wf at h
  rw [Bool.and_eq_true, decide_eq_true_eq, decide_eq_true_eq] at h
  exact h.1
theorem Act.wf_val {l : List Act} (w : ∀ y ∈ l, Act.wf y) : ∀ x ∈ l, 0 ≤ x.Value := fun x hx => u64_nonneg (w x hx).2.2.2
theorem runA_eq {l : List Act} {h : List Int} (w : ∀ y ∈ l, Act.wf y) : runA l h = runR l h := by
  unfold runA runR
  rw [act_Sound_eq (Act.wf_val w)]
theorem HeadOk_set {h : List Int} {n v : Int} (h0 : HeadOk h = true) (hf : fitsT n v = true) (hn : 0 ≤ n) : HeadOk (h.set n.toNat v) = true := by
  unfold HeadOk at h0 ⊢
  rw [List.all_eq_true] at h0 ⊢
  intro i hi
  have := h0 i hi
  rw [List.getD_eq_getElem?_getD] at this ⊢
  rw [List.getElem?_set]
  split
  · rename_i e
    split
    · rename_i hl
      have : ((i : Nat) : Int) = n := by omega
      rw [this]
      exact hf
    · rename_i hl
      rw [List.getElem?_eq_none (by omega)] at this
      exact this
  · exact this
theorem actOk_set {x : Act} (h : actOk x = true) (hk : (x.Kind == 2) = true) : 0 ≤ x.Field ∧ fitsT x.Field x.Value = true := by
  unfold actOk at h
  have h1 : (x.Kind == 1) = false := by
    rw [beq_iff_eq] at hk
    rw [hk]; rfl
  rw [h1, hk] at h
  simp only [cond_false, cond_true, Bool.and_eq_true, decide_eq_true_eq] at h
  exact ⟨h.1.1.2, h.2⟩
theorem run_heads : ∀ (l : List Act) (s : Bool × List Int × List Send), (∀ x ∈ l, actOk x = true) → HeadOk s.2.1 = true → (∀ y ∈ s.2.2, HeadOk y.Head = true) → ∀ y ∈ (l.foldl stepA_ s).2.2, HeadOk y.Head = true
  | [], s, _, _, h => h
  | x :: l, s, hl, h1, h2 => by
      rw [List.foldl_cons]
      refine run_heads l _ (fun y hy => hl y (by simp [hy])) ?_ ?_
      · unfold stepA_
        split
        · exact h1
        · split
          · rename_i hk
            obtain ⟨k1, k2⟩ := actOk_set (hl x (by simp)) hk
            exact HeadOk_set h1 k2 k1
          · exact h1
      · unfold stepA_
        split
        · intro y hy
          rcases List.mem_append.1 hy with hy | hy
          · exact h2 y hy
          · have : y = ⟨x.Port, s.2.1⟩ := by simpa using hy
            rw [this]
            exact h1
        · split <;> exact h2
theorem runR_heads {l : List Act} {h : List Int} (hh : HeadOk h = true) : ∀ y ∈ (runR l h).1, HeadOk y.Head = true := by
  unfold runR
  split
  · rename_i ho
    unfold ActsOk at ho
    rw [Bool.and_eq_true, List.all_eq_true] at ho
    exact run_heads l _ ho.1 hh (by simp)
  · simp
theorem ActRuns_true (l : List Act) (h : List Int) (wl : ∀ y ∈ l, Act.wf y) (wh : arrW .u64 12 h) (hl : l.length * 32 ≤ 140737488355328) : podestalaw04_ActRuns_raw l h = some true := by
  rw [podestalaw04_ActRuns_raw]
  cases (decide ((((List.map Act.av l).length : Nat) : Int) > 50))
  · simp only [cond_false, nil_app]
    rw [fitO_eq (by simp only [List.length_nil]; omega), runA_eq wl, act_Sound_eq (Act.wf_val wl), refActs_eq]
    simp only [bne_self_eq_false, Bool.or_false, cond_false]
    rw [cmp_loop (podestalaw04_ActRuns_l0s l h) (runR l h).1 (fun x x1 => !((!((x.Port == x1.Port) && (x.Head == x1.Head))) || ((podestaref01_Head h) && (!(podestaref01_Head x.Head))))) (fun _ => rfl) (fun x r i => by rw [podestalaw04_ActRuns_l0s]; simp only [Bool.not_not]) _ 0 rfl]
    rw [List.drop_zero, zipAll_refl]
    · rfl
    · intro x hx
      rw [refHead_eq, refHead_eq]
      cases hh : HeadOk h
      · simp
      · rw [runR_heads hh x hx]
        simp
  · rfl
/-! ### ActPlain -/
def portOf (x : Int) : Int := IntKind.i64.wrap (1 + (IntKind.i64.wrap (Int.tmod x 16)))
theorem portOf_in {x : Int} (h : intW .u8 x) : 1 ≤ portOf x ∧ portOf x ≤ 16 := by
  unfold intW Go.Lit.wf at h
  rw [Bool.and_eq_true, decide_eq_true_eq, decide_eq_true_eq] at h
  have h1 : 0 ≤ x := h.1
  unfold portOf
  rw [Int.tmod_eq_emod_of_nonneg h1, wrap_eq (n := x % 16) (by omega) (by omega), wrap_eq (by omega) (by omega)]
  omega
def outAct (x : Int) : Act := { Kind := 1, Port := portOf x, Field := 0, Value := 0 }
def tellAct : Act := { Kind := 3, Port := 0, Field := 0, Value := 0 }
theorem Plain_l0s_eq : ∀ (ports : List Int) (l : List Act), (l.length + ports.length) * 32 ≤ 140737488355328 → podestalaw04_ActPlain_l0s ports l = some (l ++ ports.map outAct)
  | [], l, _ => by rw [podestalaw04_ActPlain_l0s, List.map_nil, List.append_nil]
  | x :: ports, l, hl => by
      rw [List.length_cons] at hl
      rw [podestalaw04_ActPlain_l0s, fitO_eq (by simp only [List.length_singleton]; omega), Plain_l0s_eq ports _ (by rw [List.length_append, List.length_singleton]; omega), List.map_cons, List.append_assoc]
      rfl
theorem run_outs (h : List Int) : ∀ (ports : List Int) (t : Bool) (out : List Send), (ports.map outAct).foldl stepA_ (t, h, out) = (t, h, out ++ ports.map fun x => ⟨portOf x, h⟩)
  | [], t, out => by simp
  | x :: ports, t, out => by
      rw [List.map_cons, List.foldl_cons]
      have : stepA_ (t, h, out) (outAct x) = (t, h, out ++ [⟨portOf x, h⟩]) := rfl
      rw [this, run_outs h ports t _, List.map_cons, List.append_assoc]
      rfl
theorem outAct_ok {x : Int} (h : intW .u8 x) : actOk (outAct x) = true := by
  obtain ⟨h1, h2⟩ := portOf_in h
  unfold actOk outAct
  simp [h1, h2]
theorem plain_loop (L : List Send → Nat → Option (Sum Unit Bool)) (ports : List Int) (h : List Int) (h0 : ∀ i, L [] i = some (.inl ())) (h1 : ∀ x rest i, L (x :: rest) i = (ixO ports ((i : Nat) : Int)).bind fun x1 => bif ((x.Port != portOf x1) || (!(x.Head == h))) then some (.inr false) else L rest (i + 1)) :
    L (ports.map fun x => ⟨portOf x, h⟩) 0 = some (.inl ()) := by
  rw [cmp_loop L ports (fun x x1 => !((x.Port != portOf x1) || (!(x.Head == h)))) h0 (fun x r i => by rw [h1]; simp only [Bool.not_not]) _ 0 (by rw [List.length_map]; rfl), List.drop_zero]
  have : ∀ (ps : List Int), zipAll (fun (x : Send) x1 => !((x.Port != portOf x1) || (!(x.Head == h)))) (ps.map fun x => ⟨portOf x, h⟩) ps = true := by
    intro ps
    induction ps with
    | nil => rfl
    | cons p ps ih =>
      rw [List.map_cons, zipAll, ih]
      simp
  rw [this ports]
  rfl
theorem ActPlain_true (ports : List Int) (tells : Bool) (h : List Int) (wp : ∀ y ∈ ports, intW .u8 y) (wt : True) (wh : arrW .u64 12 h) (hl : ports.length * 1 ≤ 140737488355328) : podestalaw04_ActPlain_raw ports tells h = some true := by
  rw [podestalaw04_ActPlain_raw]
  by_cases h7 : ports.length > 7
  · rw [List.length_map, decide_eq_true (by omega)]
    rfl
  · rw [decide_eq_false (by rw [List.length_map]; omega)]
    simp only [cond_false]
    rw [Plain_l0s_eq ports [] (by simp only [List.length_nil]; omega), nil_app, Option.bind_some]
    have hok : ∀ x ∈ ports.map outAct, actOk x = true := by
      intro x hx
      obtain ⟨p, hp, rfl⟩ := List.mem_map.1 hx
      exact outAct_ok (wp p hp)
    have hv : ∀ x ∈ ports.map outAct, 0 ≤ x.Value := by
      intro x hx
      obtain ⟨p, hp, rfl⟩ := List.mem_map.1 hx
      exact Int.le_refl _
    cases tells
    · have hr : runA (ports.map outAct) h = (ports.map (fun x => (⟨portOf x, h⟩ : Send)), false) := by
        unfold runA
        rw [act_Sound_eq hv, if_pos (by unfold ActsOk; rw [Bool.and_eq_true, List.all_eq_true]; exact ⟨hok, decide_eq_true (by rw [List.length_map]; omega)⟩)]
        unfold runF
        rw [run_outs]
        rfl
      simp only [cond_false]
      rw [hr]
      have hlen : ((((List.map Send.av (ports.map (fun x => (⟨portOf x, h⟩ : Send)))).length : Nat) : Int) != (((List.map (intA .u8) ports).length : Nat) : Int)) = false := by
        rw [len_bne, List.length_map]; simp
      simp only [hlen, bne_self_eq_false, Bool.or_false, cond_false]
      rw [plain_loop (podestalaw04_ActPlain_l2s ports h) ports h (fun _ => rfl) (fun _ _ _ => rfl)]
      rfl
    · have hok2 : ActsOk (ports.map outAct ++ [tellAct]) = true := by
        unfold ActsOk
        rw [Bool.and_eq_true, List.all_eq_true]
        refine ⟨fun x hx => ?_, decide_eq_true (by rw [List.length_append, List.length_map]; simp only [List.length_singleton]; omega)⟩
        rcases List.mem_append.1 hx with hx | hx
        · exact hok x hx
        · have : x = tellAct := by simpa using hx
          rw [this]; rfl
      have hr : runA (ports.map outAct ++ [tellAct]) h = (ports.map (fun x => (⟨portOf x, h⟩ : Send)), true) := by
        unfold runA
        rw [act_Sound_eq (fun x hx => by
          rcases List.mem_append.1 hx with hx | hx
          · exact hv x hx
          · have : x = tellAct := by simpa using hx
            rw [this]; exact Int.le_refl _), if_pos hok2]
        unfold runF
        rw [List.foldl_append, run_outs]
        rfl
      simp only [cond_true]
      rw [fitO_eq (by rw [List.length_map]; simp only [List.length_singleton]; omega)]
      have hr' : runA (ports.map outAct ++ [({ Kind := 3, Port := 0, Field := 0, Value := 0 } : Act)]) h = (ports.map (fun x => (⟨portOf x, h⟩ : Send)), true) := hr
      rw [hr']
      have hlen : ((((List.map Send.av (ports.map (fun x => (⟨portOf x, h⟩ : Send)))).length : Nat) : Int) != (((List.map (intA .u8) ports).length : Nat) : Int)) = false := by
        rw [len_bne, List.length_map]; simp
      simp only [hlen, bne_self_eq_false, Bool.or_false, cond_false]
      rw [plain_loop (podestalaw04_ActPlain_l1s ports h) ports h (fun _ => rfl) (fun _ _ _ => rfl)]
      rfl

end Go.Proofs.Ytjchejmakdkioab

/- For every number, every list of bytes and every header the statement podestalaw14.NetNone answers true, and its arguments read as they did before. There is no condition. -/
import Derived.Test.YtembchgiajidaaaGreatRows
import Derived.Test.YtembchgiajidaaaGreatM6NetNone
set_option linter.unusedVariables false
set_option linter.unusedSimpArgs false
set_option maxRecDepth 100000
set_option maxHeartbeats 4000000
namespace Go.Proofs.YtembchgiajidaaaGreat
open Go.Sh
set_option maxRecDepth 100000
open Go.ChangeShapes Go.WideShapes Go.ChangeAt Go.RowKit
theorem NetNone_law (x0 : Int) (x1 : List Int) (x2 : List Int) (f1 : Bool) (w0 : intW .i64 x0) (w1 : (∀ y ∈ x1, intW .u8 y)) (w2 : arrW .u64 12 x2) : ACalls Tryz.prog tab.S 7 [.sc (.int .i64 x0), .sl 5 (List.map (intA .u8) x1) f1, .arr .u64 12 x2] [] (.sc (.bool true)) [] := by
  exact nn_hand x0 x1 x2 f1
namespace netNone
theorem own : ownKnob Tryz.prog.godebug = none := by kernel_rfl
set_option maxRecDepth 100000 in
theorem lifted (os : Os) (started : os.Started) (H : Type) (enc : TypeId × Value → H) :
    ReturnsInHanded {} Tryz.checked os 7 .any (Rows.netNoneSpec.pre6 enc Tryz.prog Tryz.f7 Rows.netNoneRow.domain false) (Rows.netNoneSpec.post enc Tryz.prog Tryz.f7 false true false false) := by
  refine returnsInHanded_of_change_sized (C := Tryz.checked) own started (by kernel_rfl) Tryz.func7
    (ChangeSpec.witness6 (enc := enc) (C := Tryz.checked) false ⟨#[], #[.int .i64 0, .slice none 0 0, .agg #[.int .u64 0, .int .u64 0, .int .u64 0, .int .u64 0, .int .u64 0, .int .u64 0, .int .u64 0, .int .u64 0, .int .u64 0, .int .u64 0, .int .u64 0, .int .u64 0]], []⟩ 8 (by kernel_rfl) (by kernel_rfl) (by kernel_rfl) (by kernel_rfl)) ?_
  intro W base args ds gs before hval0 hW hcnd hsz0 _
  have hsz : (DataW.weightsEach Tryz.prog (Tryz.f7.params.toList ++ Rows.netNoneSpec.plain.varTypes Tryz.prog) (ds ++ gs)).all (· ≤ reachBytes) = true := hsz0
  have hval : ∀ (j : Nat) t v, Tryz.f7.params[j]? = some t → args[j]? = some v → Value.okWide Tryz.prog W .any base t v := hval0
  have hW' := hW
  obtain ⟨p, q, hA0, hV, rfl, hfz, hnd⟩ := hW
  have hA : DataW.TrodAll enc Tryz.prog W 0 (fun _ => true) true Tryz.f7.params.toList args.toList ds p := hA0
  rw [Tryz.params7] at hA hval hsz
  obtain ⟨v0, vs0, d0, ds0, p0, q0, hargs, rfl, rfl, h0, r0⟩ := trodAll_cons hA
  obtain ⟨v1, vs1, d1, ds1, p1, q1, rfl, rfl, rfl, h1, r1⟩ := trodAll_cons r0
  obtain ⟨v2, vs2, d2, ds2, p2, q2, rfl, rfl, rfl, h2, r2⟩ := trodAll_cons r1
  obtain ⟨rfl, rfl, rfl⟩ := trodAll_nil r2
  obtain rfl : args = #[v0, v1, v2] := by cases args; simp_all
  obtain ⟨rfl, rfl⟩ := trodVars_none hV
  obtain ⟨g0, s0, e0⟩ := open_arg tab_ok (m := 12) (by kernel_rfl) (hval 0 3 v0 rfl rfl) h0 (weights_of hsz (j := 0) rfl rfl)
  obtain ⟨x0, rfl, w0⟩ := Shaped.int_inv (k := .i64) (by kernel_rfl) s0
  obtain ⟨g1, s1, e1⟩ := open_arg tab_ok (m := 12) (by kernel_rfl) (hval 1 32 v1 rfl rfl) h1 (weights_of hsz (j := 1) rfl rfl)
  obtain ⟨q1, rfl, hq1⟩ := Shaped.slice_inv (e := 5) (by kernel_rfl) s1
  obtain ⟨x1, hx1, w1⟩ := rows_typedW (G := tab) (e := 5) (av := (intA .u8)) (wf := fun y => intW .u8 y) q1 (fun g hg => by obtain ⟨x, rfl, w⟩ := Shaped.int_inv (k := .u8) (by kernel_rfl) (hq1 g hg); exact ⟨x, (by kernel_rfl), w⟩)
  rw [hx1] at e1
  obtain ⟨g2, s2, e2⟩ := open_arg tab_ok (m := 12) (by kernel_rfl) (hval 2 37 v2 rfl rfl) h2 (weights_of hsz (j := 2) rfl rfl)
  obtain ⟨x2, rfl, w2⟩ := Shaped.arr_inv (n := 12) (e := 35) (k := .u64) (by kernel_rfl) (by kernel_rfl) s2
  refine (law_call (vals := #[v0, v1, v2]) (NetNone_law x0 x1 x2 false w0 w1 w2) (.cons e0 (.cons e1 (.cons e2 .nil)))).mono fun e W' ⟨he, bel⟩ => ?_
  subst he
  exact ⟨_, rfl, _, _, _, [], _, [], hW', trodAll_mk1 (shut_bool Tryz.underlying4 _), (trodAll_cons_mk (shut_arg (by kernel_rfl) (by kernel_rfl) (of_decide_eq_true (by kernel_rfl)) h0 bel) (trodAll_cons_mk (shut_arg (by kernel_rfl) (by kernel_rfl) (of_decide_eq_true (by kernel_rfl)) h1 bel) (trodAll_cons_mk (shut_arg (by kernel_rfl) (by kernel_rfl) (of_decide_eq_true (by kernel_rfl)) h2 bel) trodAll_mk0))), rfl, bel.frame _, fun h => by cases h⟩
theorem over : Rows.netNoneRow.holds Tryz.pinned (OpenSpec.ofChange Rows.netNoneSpec) :=
  OpenClaim.holds_of_wide 7 Tryz.f7 rfl rfl rfl rfl rfl rfl rfl ⟨rfl, rfl, rfl, rfl, rfl⟩ rfl rfl rfl rfl rfl (by kernel_rfl) Tryz.func7 (by kernel_rfl)
    (of_decide_eq_true (by kernel_rfl)) (by unfold Func.isWrapper; first | (rw [if_pos (by decide +kernel)]; kernel_rfl) | (rw [if_neg (by decide +kernel)]; exact ⟨rfl, rfl⟩))
    (fun os started H enc _ => lifted os started H enc)
end netNone
/-- The row, for the claim. -/
theorem netNone_holds : Rows.NetNoneSaid := netNone.over
#print axioms netNone_holds

end Go.Proofs.YtembchgiajidaaaGreat

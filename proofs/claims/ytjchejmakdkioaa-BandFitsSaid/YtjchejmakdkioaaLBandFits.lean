/- For every number of an app and every list of changes the statement podestalaw21.BandFits answers true, and its arguments read as they did before. There is no condition. -/
import Derived.Test.YtjchejmakdkioaaRows
import Derived.Test.YtjchejmakdkioaaM2BandFits
set_option linter.unusedVariables false
set_option linter.unusedSimpArgs false
set_option maxRecDepth 100000
set_option maxHeartbeats 4000000
namespace Go.Proofs.Ytjchejmakdkioaa
open Go.Sh
set_option maxRecDepth 100000
open Go.ChangeShapes Go.WideShapes Go.ChangeAt Go.RowKit
theorem BandFits_law (x0 : Int) (x1 : List Change) (f1 : Bool) (w0 : intW .i64 x0) (w1 : (∀ y ∈ x1, Change.wf y)) : ACalls Try.prog tab.S 7 [.sc (.int .i64 x0), .sl 88 (List.map Change.av x1) f1] [] (.sc (.bool true)) [] := by
  have h := podestalaw21_BandFits_calls x0 x1 f1
  have e : podestalaw21_BandFits x0 x1 = true := BandFits_true x0 x1 w0 w1
  rw [e] at h
  exact h
namespace bandFits
theorem own : ownKnob Try.prog.godebug = none := by kernel_rfl
set_option maxRecDepth 100000 in
theorem lifted (os : Os) (started : os.Started) (H : Type) (enc : TypeId × Value → H) :
    ReturnsInHanded {} Try.checked os 7 .any (Rows.bandFitsSpec.pre6 enc Try.prog Try.f7 Rows.bandFitsRow.domain false) (Rows.bandFitsSpec.post enc Try.prog Try.f7 false true false false) := by
  refine returnsInHanded_of_change_sized (C := Try.checked) own started (by kernel_rfl) Try.func7
    (ChangeSpec.witness6 (enc := enc) (C := Try.checked) false ⟨#[], #[.int .i64 0, .slice none 0 0], []⟩ 8 (by kernel_rfl) (by kernel_rfl) (by kernel_rfl) (by kernel_rfl)) ?_
  intro W base args ds gs before hval0 hW hcnd hsz0 _
  have hsz : (DataW.weightsEach Try.prog (Try.f7.params.toList ++ Rows.bandFitsSpec.plain.varTypes Try.prog) (ds ++ gs)).all (· ≤ reachBytes) = true := hsz0
  have hval : ∀ (j : Nat) t v, Try.f7.params[j]? = some t → args[j]? = some v → Value.okWide Try.prog W .any base t v := hval0
  have hW' := hW
  obtain ⟨p, q, hA0, hV, rfl, hfz, hnd⟩ := hW
  have hA : DataW.TrodAll enc Try.prog W 0 (fun _ => true) true Try.f7.params.toList args.toList ds p := hA0
  rw [Try.params7] at hA hval hsz
  obtain ⟨v0, vs0, d0, ds0, p0, q0, hargs, rfl, rfl, h0, r0⟩ := trodAll_cons hA
  obtain ⟨v1, vs1, d1, ds1, p1, q1, rfl, rfl, rfl, h1, r1⟩ := trodAll_cons r0
  obtain ⟨rfl, rfl, rfl⟩ := trodAll_nil r1
  obtain rfl : args = #[v0, v1] := by cases args; simp_all
  obtain ⟨rfl, rfl⟩ := trodVars_none hV
  obtain ⟨g0, s0, e0⟩ := open_arg tab_ok (m := 12) (by kernel_rfl) (hval 0 3 v0 rfl rfl) h0 (weights_of hsz (j := 0) rfl rfl)
  obtain ⟨x0, rfl, w0⟩ := Shaped.int_inv (k := .i64) (by kernel_rfl) s0
  obtain ⟨g1, s1, e1⟩ := open_arg tab_ok (m := 12) (by kernel_rfl) (hval 1 39 v1 rfl rfl) h1 (weights_of hsz (j := 1) rfl rfl)
  obtain ⟨q1, rfl, hq1⟩ := Shaped.slice_inv (e := 88) (by kernel_rfl) s1
  obtain ⟨x1, hx1, w1⟩ := rows_typedW (G := tab) (e := 88) (av := Change.av) (wf := fun y => Change.wf y) q1 (fun g hg => by obtain ⟨x, rfl, w⟩ := Change.shaped (hq1 g hg); exact ⟨x, (by kernel_rfl), w⟩)
  rw [hx1] at e1
  refine (law_call (vals := #[v0, v1]) (BandFits_law x0 x1 false w0 w1) (.cons e0 (.cons e1 .nil))).mono fun e W' ⟨he, bel⟩ => ?_
  subst he
  exact ⟨_, rfl, _, _, _, [], _, [], hW', trodAll_mk1 (shut_bool Try.underlying4 _), (trodAll_cons_mk (shut_arg (by kernel_rfl) (by kernel_rfl) (of_decide_eq_true (by kernel_rfl)) h0 bel) (trodAll_cons_mk (shut_arg (by kernel_rfl) (by kernel_rfl) (of_decide_eq_true (by kernel_rfl)) h1 bel) trodAll_mk0)), rfl, bel.frame _, fun h => by cases h⟩
theorem over : Rows.bandFitsRow.holds Try.pinned (OpenSpec.ofChange Rows.bandFitsSpec) :=
  OpenClaim.holds_of_wide 7 Try.f7 rfl rfl rfl rfl rfl rfl rfl ⟨rfl, rfl, rfl, rfl, rfl⟩ rfl rfl rfl rfl rfl (by kernel_rfl) Try.func7 (by kernel_rfl)
    (of_decide_eq_true (by kernel_rfl)) (by unfold Func.isWrapper; first | (rw [if_pos (by decide +kernel)]; kernel_rfl) | (rw [if_neg (by decide +kernel)]; exact ⟨rfl, rfl⟩))
    (fun os started H enc _ => lifted os started H enc)
end bandFits
/-- The row, for the claim. -/
theorem bandFits_holds : Rows.BandFitsSaid := bandFits.over
#print axioms bandFits_holds

end Go.Proofs.Ytjchejmakdkioaa

import Derived.Test.YtjchejmakdkioaaB0
import Derived.Test.YtjchejmakdkioaaShV
set_option linter.unusedVariables false
set_option maxRecDepth 100000
set_option maxHeartbeats 4000000
namespace Go.Proofs.Ytjchejmakdkioaa
open Go.Sh
set_option maxRecDepth 100000
open Go.ChangeShapes Go.WideShapes Go.ChangeAt Go.RowKit
def Band.wf (x : Band) : Prop := intW .i64 x.Low ∧ intW .i64 x.High
theorem Band.shaped {gs : List AV} (h : Shaped tab 23 gs) : ∃ x : Band, gs = [.sc (.int .i64 x.Low), .sc (.int .i64 x.High)] ∧ x.wf := by
  obtain ⟨gss, rfl, hl, hf⟩ := Shaped.struct_inv (fl := [(0, 3), (1, 3)]) (by kernel_rfl) h
  match gss, hl, hf with
  | [g0, g1], _, hf =>
    obtain ⟨x0, rfl, w0⟩ := Shaped.int_inv (k := .i64) (by kernel_rfl) (hf 0 _ _ rfl rfl)
    obtain ⟨x1, rfl, w1⟩ := Shaped.int_inv (k := .i64) (by kernel_rfl) (hf 1 _ _ rfl rfl)
    exact ⟨⟨x0, x1⟩, rfl, ⟨w0, w1⟩⟩

end Go.Proofs.Ytjchejmakdkioaa

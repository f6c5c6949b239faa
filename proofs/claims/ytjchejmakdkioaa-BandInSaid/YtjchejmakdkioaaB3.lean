import Derived.Test.YtjchejmakdkioaaB2
set_option linter.unusedVariables false
set_option maxRecDepth 100000
namespace Go.Proofs.Ytjchejmakdkioaa
open Go.Sh
theorem answers21_eq : podestalaw21_answers = true := by kernel_rfl
theorem BandIn_eq (b : Band) (p : Int) : podestalaw21_BandIn b p = true := by
  simp [podestalaw21_BandIn, answers21_eq, band_In]
theorem BandIn_calls (b : Band) (p : Int) : ACalls Try.prog tab.S 5 [Band.av b, .sc (.int .i64 p)] [] (.sc (.bool true)) [] := by
  have := podestalaw21_BandIn_calls b p
  rw [BandIn_eq] at this
  exact this
end Go.Proofs.Ytjchejmakdkioaa

import Derived.Test.YtjchejmakdkioaaG4
set_option maxRecDepth 100000
namespace Go.Proofs.Ytjchejmakdkioaa
open Go.Sh
theorem answers06_calls : ACalls Try.prog tab.S 33 [] [] (.sc (.bool true)) [] :=
  podestalaw06_answers_walk true (by kernel_rfl)
end Go.Proofs.Ytjchejmakdkioaa

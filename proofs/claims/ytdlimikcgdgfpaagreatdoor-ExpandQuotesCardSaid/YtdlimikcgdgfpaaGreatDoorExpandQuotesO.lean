/- The row of the statement ExpandQuotes: for every input the law returns true, and each argument reads as it did; its card. Conditions: none beyond the row's own. -/
import Derived.Test.YtdlimikcgdgfpaaGreatDoorExpandQuotesL
import Derived.Test.YtdlimikcgdgfpaaGreatDoorTie
import Derived.Test.YtdlimikcgdgfpaaGreatDoorCards
import Derived.Test.YtdlimikcgdgfpaaGreatDoorExpandQuotesQ
import Derived.WalkKit
import Derived.ProofKit
import Derived.OpenShut
import Derived.ShutString
import Derived.ChangeOld
import Derived.Below
import Derived.LaidMore
import Derived.Lay
import Derived.SevenTiedAt
import Derived.Stop.Joined
namespace Go.Proofs.YtdlimikcgdgfpaaGreatDoor.expandQuotes
open Go.ChangeShapes Go.WideShapes Go.ChangeAt Go.RowKit E
open Go.ChangeMaps (open_string shut_string)
set_option linter.unusedVariables false
set_option linter.unusedSimpArgs false

set_option maxRecDepth 100000 in
theorem over : Rows.ExpandQuotesSaid :=
  OpenClaim.holds_of_wide 6 Tryz.f6 rfl rfl rfl rfl rfl rfl rfl ⟨rfl, rfl, rfl, rfl, rfl⟩ rfl rfl rfl rfl rfl (by kernel_rfl) Tryz.func6 jfs
    (of_decide_eq_true (by kernel_rfl)) (by unfold Func.isWrapper; first | (rw [if_pos (by decide +kernel)]; kernel_rfl) | (rw [if_neg (by decide +kernel)]; exact ⟨rfl, rfl⟩))
    (fun os started H enc _ => lifted os started H enc)

end Go.Proofs.YtdlimikcgdgfpaaGreatDoor.expandQuotes

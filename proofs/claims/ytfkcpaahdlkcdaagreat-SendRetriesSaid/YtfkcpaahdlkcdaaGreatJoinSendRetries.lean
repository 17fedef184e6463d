import Derived.Test.YtfkcpaahdlkcdaaGreatRows
import Derived.KernelRfl
import Derived.JoinedOf
import Derived.OpenShut
import Derived.ShutString
import Derived.ChangeOld
import Derived.SizedLaws
set_option linter.unusedSimpArgs false
set_option linter.unusedVariables false
namespace Go.Proofs.YtfkcpaahdlkcdaaGreat.sendRetries
open Go.RowKit
theorem fnamed : Tryz.pinned.checked.prog.funcNamed Rows.sendRetriesRow.func = some 3 := by kernel_rfl
theorem instd : Tryz.f3.isInstance Tryz.pinned.checked.prog Rows.sendRetriesRow.origin Rows.sendRetriesRow.targs := of_decide_eq_true (by kernel_rfl)
theorem wrapd : Tryz.f3.isWrapper Tryz.pinned.checked.prog Rows.sendRetriesRow.wrapper Rows.sendRetriesRow.mainSum := by unfold Func.isWrapper; first | (rw [if_pos (by decide +kernel)]; kernel_rfl) | (rw [if_neg (by decide +kernel)]; exact ⟨rfl, rfl⟩)
theorem joined : joinedFacts Tryz.pinned.checked.prog 3 Tryz.f3 Rows.sendRetriesSpec Rows.sendRetriesRow = true := by kernel_rfl
end Go.Proofs.YtfkcpaahdlkcdaaGreat.sendRetries

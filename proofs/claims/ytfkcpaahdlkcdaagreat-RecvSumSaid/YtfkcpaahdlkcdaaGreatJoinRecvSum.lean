import Derived.Test.YtfkcpaahdlkcdaaGreatRows
import Derived.KernelRfl
import Derived.JoinedOf
import Derived.OpenShut
import Derived.ShutString
import Derived.ChangeOld
import Derived.SizedLaws
set_option linter.unusedSimpArgs false
set_option linter.unusedVariables false
namespace Go.Proofs.YtfkcpaahdlkcdaaGreat.recvSum
open Go.RowKit
theorem fnamed : Tryz.pinned.checked.prog.funcNamed Rows.recvSumRow.func = some 9 := by kernel_rfl
theorem instd : Tryz.f9.isInstance Tryz.pinned.checked.prog Rows.recvSumRow.origin Rows.recvSumRow.targs := of_decide_eq_true (by kernel_rfl)
theorem wrapd : Tryz.f9.isWrapper Tryz.pinned.checked.prog Rows.recvSumRow.wrapper Rows.recvSumRow.mainSum := by unfold Func.isWrapper; first | (rw [if_pos (by decide +kernel)]; kernel_rfl) | (rw [if_neg (by decide +kernel)]; exact ⟨rfl, rfl⟩)
theorem joined : joinedFacts Tryz.pinned.checked.prog 9 Tryz.f9 Rows.recvSumSpec Rows.recvSumRow = true := by kernel_rfl
end Go.Proofs.YtfkcpaahdlkcdaaGreat.recvSum

import Derived.Test.YtfkcpaahdlkcdaaGreatRows
import Derived.KernelRfl
import Derived.JoinedOf
import Derived.OpenShut
import Derived.ShutString
import Derived.ChangeOld
import Derived.SizedLaws
set_option linter.unusedSimpArgs false
set_option linter.unusedVariables false
namespace Go.Proofs.YtfkcpaahdlkcdaaGreat.recvReads
open Go.RowKit
theorem fnamed : Tryz.pinned.checked.prog.funcNamed Rows.recvReadsRow.func = some 8 := by kernel_rfl
theorem instd : Tryz.f8.isInstance Tryz.pinned.checked.prog Rows.recvReadsRow.origin Rows.recvReadsRow.targs := of_decide_eq_true (by kernel_rfl)
theorem wrapd : Tryz.f8.isWrapper Tryz.pinned.checked.prog Rows.recvReadsRow.wrapper Rows.recvReadsRow.mainSum := by unfold Func.isWrapper; first | (rw [if_pos (by decide +kernel)]; kernel_rfl) | (rw [if_neg (by decide +kernel)]; exact ⟨rfl, rfl⟩)
theorem joined : joinedFacts Tryz.pinned.checked.prog 8 Tryz.f8 Rows.recvReadsSpec Rows.recvReadsRow = true := by kernel_rfl
end Go.Proofs.YtfkcpaahdlkcdaaGreat.recvReads

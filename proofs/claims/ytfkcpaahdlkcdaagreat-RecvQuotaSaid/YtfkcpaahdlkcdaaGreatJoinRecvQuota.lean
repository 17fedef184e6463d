import Derived.Test.YtfkcpaahdlkcdaaGreatRows
import Derived.KernelRfl
import Derived.JoinedOf
import Derived.OpenShut
import Derived.ShutString
import Derived.ChangeOld
import Derived.SizedLaws
set_option linter.unusedSimpArgs false
set_option linter.unusedVariables false
namespace Go.Proofs.YtfkcpaahdlkcdaaGreat.recvQuota
open Go.RowKit
theorem fnamed : Tryz.pinned.checked.prog.funcNamed Rows.recvQuotaRow.func = some 10 := by kernel_rfl
theorem instd : Tryz.f10.isInstance Tryz.pinned.checked.prog Rows.recvQuotaRow.origin Rows.recvQuotaRow.targs := of_decide_eq_true (by kernel_rfl)
theorem wrapd : Tryz.f10.isWrapper Tryz.pinned.checked.prog Rows.recvQuotaRow.wrapper Rows.recvQuotaRow.mainSum := by unfold Func.isWrapper; first | (rw [if_pos (by decide +kernel)]; kernel_rfl) | (rw [if_neg (by decide +kernel)]; exact ⟨rfl, rfl⟩)
theorem joined : joinedFacts Tryz.pinned.checked.prog 10 Tryz.f10 Rows.recvQuotaSpec Rows.recvQuotaRow = true := by kernel_rfl
end Go.Proofs.YtfkcpaahdlkcdaaGreat.recvQuota

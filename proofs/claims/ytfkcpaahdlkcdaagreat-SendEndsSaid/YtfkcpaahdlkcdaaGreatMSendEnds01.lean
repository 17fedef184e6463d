import Derived.Test.YtfkcpaahdlkcdaaGreatM29
import Derived.Test.YtfkcpaahdlkcdaaGreatRows
import Derived.KernelRfl
import Derived.JoinedOf
import Derived.OpenShut
import Derived.ShutString
import Derived.ChangeOld
import Derived.SizedLaws
/-! Joined: JoinSendEnds. -/
set_option linter.unusedSimpArgs false
set_option linter.unusedVariables false
namespace Go.Proofs.YtfkcpaahdlkcdaaGreat.sendEnds
open Go.RowKit
theorem fnamed : Tryz.pinned.checked.prog.funcNamed Rows.sendEndsRow.func = some 7 := by kernel_rfl
theorem instd : Tryz.f7.isInstance Tryz.pinned.checked.prog Rows.sendEndsRow.origin Rows.sendEndsRow.targs := of_decide_eq_true (by kernel_rfl)
theorem wrapd : Tryz.f7.isWrapper Tryz.pinned.checked.prog Rows.sendEndsRow.wrapper Rows.sendEndsRow.mainSum := by unfold Func.isWrapper; first | (rw [if_pos (by decide +kernel)]; kernel_rfl) | (rw [if_neg (by decide +kernel)]; exact ⟨rfl, rfl⟩)
theorem joined : joinedFacts Tryz.pinned.checked.prog 7 Tryz.f7 Rows.sendEndsSpec Rows.sendEndsRow = true := by kernel_rfl
end Go.Proofs.YtfkcpaahdlkcdaaGreat.sendEnds

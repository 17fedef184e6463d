/-
  No cell of these rows narrows 'for every input' (looked for: loops, veiled, ifaces, maps, wideKeys, modest, calm, conditions, laid).
  DERIVED. THE GIVEN ROWS OF THIS SEAT. 10 by the template 'for every input the law returns true; each argument reads behind the call as it read before'; 0 by the template 'total and deterministic' (their statements: YtfkcpaahdlkcdaaGreatTotals.lean).
  GIVEN WITH THE SEED: the statements are not yours to turn. If you find one false, say at which input.
  Laid BY PROGRAM, IN A SANDBOX (cutbox-rows.mjs): the forced cells as the released guide's own fill.sh prints them over the translation 81c37c7b91eae3cb… (all of the seat's roots in one cut). By AI agents, Wed Nov 11 2026. No macro, syntax, notation, axiom, sorry.
-/
import Derived.Test.YtfkcpaahdlkcdaaGreatChecked
import GoSem.Claim
import GoSem.ClaimJoined
import GoSem.ClaimMapViews
import Derived.JoinedTies
import Derived.KernelRfl
namespace Go.Proofs.YtfkcpaahdlkcdaaGreat
/- THE CELL 'sum', in the pinned program and in every row, IS THE sha256 OF THE DUMP (.gsa) THAT YtfkcpaahdlkcdaaGreatProg.lean LOADS. Nothing in Lean hashes anything: it is a label: what it is worth is what the hold of that sum in a sandbox is worth. -/
noncomputable def Tryz.pinned : Pinned := { name := "ytfkcpaahdlkcdaagreat", sum := "81c37c7b91eae3cb69c83809f76289bfcb929fc0dd88de7726efdd7d3b6cd38e", checked := Tryz.checked }
namespace Rows
def none {H : Type} : Left H := { results := [], args := [] }

/-- 'scullerlaw17.SendRetries': WHATEVER THE INPUT: true; the input reads as it did. -/
def sendRetriesSpec : ChangeSpec := { name := "sendRetries", fn := fun _ => fun
  | [d1, d2, d3, d4] => { results := [.lit (.bool true)], args := [d1, d2, d3, d4] }
  | _ => none }
def sendRetriesRow : OpenClaim := { program := "ytfkcpaahdlkcdaagreat", sum := "81c37c7b91eae3cb69c83809f76289bfcb929fc0dd88de7726efdd7d3b6cd38e", func := "sculler/scullerlaw17.SendRetries", spec := "sendRetries", unfollowed := true, recurses := true, apart := false }
def SendRetriesSaid : Prop := sendRetriesRow.holds Tryz.pinned (OpenSpec.ofChange sendRetriesSpec)

/-- ITS FALSE NEIGHBOUR: 'it returns false'. Refute it at one input. -/
def sendRetriesWrong : ChangeSpec := { name := "sendRetries", fn := fun _ => fun
  | [d1, d2, d3, d4] => { results := [.lit (.bool false)], args := [d1, d2, d3, d4] }
  | _ => none }
def SendRetriesWrongFalsely : Prop := sendRetriesRow.holds Tryz.pinned (OpenSpec.ofChange sendRetriesWrong)

/-- 'scullerlaw17.SendFits': WHATEVER THE INPUT: true; the input reads as it did. -/
def sendFitsSpec : ChangeSpec := { name := "sendFits", fn := fun _ => fun
  | [d1, d2, d3, d4, d5] => { results := [.lit (.bool true)], args := [d1, d2, d3, d4, d5] }
  | _ => none }
def sendFitsRow : OpenClaim := { program := "ytfkcpaahdlkcdaagreat", sum := "81c37c7b91eae3cb69c83809f76289bfcb929fc0dd88de7726efdd7d3b6cd38e", func := "sculler/scullerlaw17.SendFits", spec := "sendFits", unfollowed := true, recurses := true, apart := false }
def SendFitsSaid : Prop := sendFitsRow.holds Tryz.pinned (OpenSpec.ofChange sendFitsSpec)

/-- ITS FALSE NEIGHBOUR: 'it returns false'. Refute it at one input. -/
def sendFitsWrong : ChangeSpec := { name := "sendFits", fn := fun _ => fun
  | [d1, d2, d3, d4, d5] => { results := [.lit (.bool false)], args := [d1, d2, d3, d4, d5] }
  | _ => none }
def SendFitsWrongFalsely : Prop := sendFitsRow.holds Tryz.pinned (OpenSpec.ofChange sendFitsWrong)

/-- 'scullerlaw17.SendWindow': WHATEVER THE INPUT: true; the input reads as it did. -/
def sendWindowSpec : ChangeSpec := { name := "sendWindow", fn := fun _ => fun
  | [d1, d2, d3, d4, d5] => { results := [.lit (.bool true)], args := [d1, d2, d3, d4, d5] }
  | _ => none }
def sendWindowRow : OpenClaim := { program := "ytfkcpaahdlkcdaagreat", sum := "81c37c7b91eae3cb69c83809f76289bfcb929fc0dd88de7726efdd7d3b6cd38e", func := "sculler/scullerlaw17.SendWindow", spec := "sendWindow", unfollowed := true, recurses := true, apart := false }
def SendWindowSaid : Prop := sendWindowRow.holds Tryz.pinned (OpenSpec.ofChange sendWindowSpec)

/-- ITS FALSE NEIGHBOUR: 'it returns false'. Refute it at one input. -/
def sendWindowWrong : ChangeSpec := { name := "sendWindow", fn := fun _ => fun
  | [d1, d2, d3, d4, d5] => { results := [.lit (.bool false)], args := [d1, d2, d3, d4, d5] }
  | _ => none }
def SendWindowWrongFalsely : Prop := sendWindowRow.holds Tryz.pinned (OpenSpec.ofChange sendWindowWrong)

/-- 'scullerlaw17.SendForeign': WHATEVER THE INPUT: true; the input reads as it did. -/
def sendForeignSpec : ChangeSpec := { name := "sendForeign", fn := fun _ => fun
  | [d1, d2, d3, d4, d5, d6] => { results := [.lit (.bool true)], args := [d1, d2, d3, d4, d5, d6] }
  | _ => none }
def sendForeignRow : OpenClaim := { program := "ytfkcpaahdlkcdaagreat", sum := "81c37c7b91eae3cb69c83809f76289bfcb929fc0dd88de7726efdd7d3b6cd38e", func := "sculler/scullerlaw17.SendForeign", spec := "sendForeign", unfollowed := true, recurses := true, apart := false }
def SendForeignSaid : Prop := sendForeignRow.holds Tryz.pinned (OpenSpec.ofChange sendForeignSpec)

/-- ITS FALSE NEIGHBOUR: 'it returns false'. Refute it at one input. -/
def sendForeignWrong : ChangeSpec := { name := "sendForeign", fn := fun _ => fun
  | [d1, d2, d3, d4, d5, d6] => { results := [.lit (.bool false)], args := [d1, d2, d3, d4, d5, d6] }
  | _ => none }
def SendForeignWrongFalsely : Prop := sendForeignRow.holds Tryz.pinned (OpenSpec.ofChange sendForeignWrong)

/-- 'scullerlaw17.SendEnds': WHATEVER THE INPUT: true; the input reads as it did. -/
def sendEndsSpec : ChangeSpec := { name := "sendEnds", fn := fun _ => fun
  | [d1, d2, d3, d4, d5, d6] => { results := [.lit (.bool true)], args := [d1, d2, d3, d4, d5, d6] }
  | _ => none }
def sendEndsRow : OpenClaim := { program := "ytfkcpaahdlkcdaagreat", sum := "81c37c7b91eae3cb69c83809f76289bfcb929fc0dd88de7726efdd7d3b6cd38e", func := "sculler/scullerlaw17.SendEnds", spec := "sendEnds", unfollowed := true, recurses := true, apart := false }
def SendEndsSaid : Prop := sendEndsRow.holds Tryz.pinned (OpenSpec.ofChange sendEndsSpec)

/-- ITS FALSE NEIGHBOUR: 'it returns false'. Refute it at one input. -/
def sendEndsWrong : ChangeSpec := { name := "sendEnds", fn := fun _ => fun
  | [d1, d2, d3, d4, d5, d6] => { results := [.lit (.bool false)], args := [d1, d2, d3, d4, d5, d6] }
  | _ => none }
def SendEndsWrongFalsely : Prop := sendEndsRow.holds Tryz.pinned (OpenSpec.ofChange sendEndsWrong)

/-- 'scullerlaw18.RecvReads': WHATEVER THE INPUT: true; the input reads as it did. -/
def recvReadsSpec : ChangeSpec := { name := "recvReads", fn := fun _ => fun
  | [d1, d2, d3, d4, d5, d6, d7] => { results := [.lit (.bool true)], args := [d1, d2, d3, d4, d5, d6, d7] }
  | _ => none }
def recvReadsRow : OpenClaim := { program := "ytfkcpaahdlkcdaagreat", sum := "81c37c7b91eae3cb69c83809f76289bfcb929fc0dd88de7726efdd7d3b6cd38e", func := "sculler/scullerlaw18.RecvReads", spec := "recvReads", inPlace := ["maps.clone"], unfollowed := true, recurses := true, apart := false }
def RecvReadsSaid : Prop := recvReadsRow.holds Tryz.pinned (OpenSpec.ofChange recvReadsSpec)

/-- ITS FALSE NEIGHBOUR: 'it returns false'. Refute it at one input. -/
def recvReadsWrong : ChangeSpec := { name := "recvReads", fn := fun _ => fun
  | [d1, d2, d3, d4, d5, d6, d7] => { results := [.lit (.bool false)], args := [d1, d2, d3, d4, d5, d6, d7] }
  | _ => none }
def RecvReadsWrongFalsely : Prop := recvReadsRow.holds Tryz.pinned (OpenSpec.ofChange recvReadsWrong)

/-- 'scullerlaw18.RecvSum': WHATEVER THE INPUT: true; the input reads as it did. -/
def recvSumSpec : ChangeSpec := { name := "recvSum", fn := fun _ => fun
  | [d1, d2, d3, d4, d5, d6] => { results := [.lit (.bool true)], args := [d1, d2, d3, d4, d5, d6] }
  | _ => none }
def recvSumRow : OpenClaim := { program := "ytfkcpaahdlkcdaagreat", sum := "81c37c7b91eae3cb69c83809f76289bfcb929fc0dd88de7726efdd7d3b6cd38e", func := "sculler/scullerlaw18.RecvSum", spec := "recvSum", inPlace := ["maps.clone"], unfollowed := true, recurses := true, apart := false }
def RecvSumSaid : Prop := recvSumRow.holds Tryz.pinned (OpenSpec.ofChange recvSumSpec)

/-- ITS FALSE NEIGHBOUR: 'it returns false'. Refute it at one input. -/
def recvSumWrong : ChangeSpec := { name := "recvSum", fn := fun _ => fun
  | [d1, d2, d3, d4, d5, d6] => { results := [.lit (.bool false)], args := [d1, d2, d3, d4, d5, d6] }
  | _ => none }
def RecvSumWrongFalsely : Prop := recvSumRow.holds Tryz.pinned (OpenSpec.ofChange recvSumWrong)

/-- 'scullerlaw18.RecvQuota': WHATEVER THE INPUT: true; the input reads as it did. -/
def recvQuotaSpec : ChangeSpec := { name := "recvQuota", fn := fun _ => fun
  | [d1, d2, d3, d4, d5] => { results := [.lit (.bool true)], args := [d1, d2, d3, d4, d5] }
  | _ => none }
def recvQuotaRow : OpenClaim := { program := "ytfkcpaahdlkcdaagreat", sum := "81c37c7b91eae3cb69c83809f76289bfcb929fc0dd88de7726efdd7d3b6cd38e", func := "sculler/scullerlaw18.RecvQuota", spec := "recvQuota", inPlace := ["maps.clone"], unfollowed := true, recurses := true, apart := false }
def RecvQuotaSaid : Prop := recvQuotaRow.holds Tryz.pinned (OpenSpec.ofChange recvQuotaSpec)

/-- ITS FALSE NEIGHBOUR: 'it returns false'. Refute it at one input. -/
def recvQuotaWrong : ChangeSpec := { name := "recvQuota", fn := fun _ => fun
  | [d1, d2, d3, d4, d5] => { results := [.lit (.bool false)], args := [d1, d2, d3, d4, d5] }
  | _ => none }
def RecvQuotaWrongFalsely : Prop := recvQuotaRow.holds Tryz.pinned (OpenSpec.ofChange recvQuotaWrong)

/-- 'scullerlaw18.RecvToken': WHATEVER THE INPUT: true; the input reads as it did. -/
def recvTokenSpec : ChangeSpec := { name := "recvToken", fn := fun _ => fun
  | [d1, d2, d3, d4, d5] => { results := [.lit (.bool true)], args := [d1, d2, d3, d4, d5] }
  | _ => none }
def recvTokenRow : OpenClaim := { program := "ytfkcpaahdlkcdaagreat", sum := "81c37c7b91eae3cb69c83809f76289bfcb929fc0dd88de7726efdd7d3b6cd38e", func := "sculler/scullerlaw18.RecvToken", spec := "recvToken", inPlace := ["maps.clone"], unfollowed := true, recurses := true, apart := false }
def RecvTokenSaid : Prop := recvTokenRow.holds Tryz.pinned (OpenSpec.ofChange recvTokenSpec)

/-- ITS FALSE NEIGHBOUR: 'it returns false'. Refute it at one input. -/
def recvTokenWrong : ChangeSpec := { name := "recvToken", fn := fun _ => fun
  | [d1, d2, d3, d4, d5] => { results := [.lit (.bool false)], args := [d1, d2, d3, d4, d5] }
  | _ => none }
def RecvTokenWrongFalsely : Prop := recvTokenRow.holds Tryz.pinned (OpenSpec.ofChange recvTokenWrong)

/-- 'scullerlaw18.RecvCrash': WHATEVER THE INPUT: true; the input reads as it did. -/
def recvCrashSpec : ChangeSpec := { name := "recvCrash", fn := fun _ => fun
  | [d1, d2, d3, d4, d5, d6, d7] => { results := [.lit (.bool true)], args := [d1, d2, d3, d4, d5, d6, d7] }
  | _ => none }
def recvCrashRow : OpenClaim := { program := "ytfkcpaahdlkcdaagreat", sum := "81c37c7b91eae3cb69c83809f76289bfcb929fc0dd88de7726efdd7d3b6cd38e", func := "sculler/scullerlaw18.RecvCrash", spec := "recvCrash", inPlace := ["maps.clone"], unfollowed := true, recurses := true, apart := false }
def RecvCrashSaid : Prop := recvCrashRow.holds Tryz.pinned (OpenSpec.ofChange recvCrashSpec)

/-- ITS FALSE NEIGHBOUR: 'it returns false'. Refute it at one input. -/
def recvCrashWrong : ChangeSpec := { name := "recvCrash", fn := fun _ => fun
  | [d1, d2, d3, d4, d5, d6, d7] => { results := [.lit (.bool false)], args := [d1, d2, d3, d4, d5, d6, d7] }
  | _ => none }
def RecvCrashWrongFalsely : Prop := recvCrashRow.holds Tryz.pinned (OpenSpec.ofChange recvCrashWrong)

/- THE SECOND FORM. 'bulk': how many values and letters a reading holds, each counted each time it is reached (what is shared counts as often as it is met; a slice's spare places count too). A statement '..UptoSaid' is the law's where the arguments, and the package variables that the reading takes, are together of bulk at most 1048576: NARROWER than '..Said'. Prove '..Said' where nothing that the law and all that it calls make is longer than what came in: it says more and counts as full. Else prove '..UptoSaid'. A law counts once. -/
mutual
def uptoBulk {H : Type} : DataW H → Nat
  | .lit (.string bytes) => bytes.length + 1
  | .lit _ => 1
  | .nil => 1
  | .ptr d => uptoBulk d + 1
  | .slice elems spare => uptoBulkAll elems + uptoBulkAll spare + 1
  | .agg parts => uptoBulkAll parts + 1
  | .iface _ d => uptoBulk d + 1
  | .map entries => uptoBulkEntries entries + 1
  | .held _ => 1
def uptoBulkAll {H : Type} : List (DataW H) → Nat
  | [] => 0
  | d :: r => uptoBulk d + uptoBulkAll r
def uptoBulkEntries {H : Type} : List (Lit × DataW H) → Nat
  | [] => 0
  | x :: r => uptoBulkEntry x + uptoBulkEntries r
def uptoBulkEntry {H : Type} : Lit × DataW H → Nat
  | (.string bytes, d) => bytes.length + uptoBulk d + 1
  | (_, d) => uptoBulk d + 1
 end
def uptoSmall : (H : Type) → List (DataW H) → Bool := fun _ ds => decide (uptoBulkAll ds ≤ 1048576)
def OpenSpec.upto (s : _root_.Go.ChangeSpec) : _root_.Go.OpenSpec := { _root_.Go.OpenSpec.ofChange s with cond := some uptoSmall }

/-- 'scullerlaw17.SendRetries', WHERE WHAT IT READS IS OF BULK AT MOST 1048576: true; the input reads as it did. -/
def sendRetriesUptoRow : OpenClaim := { program := "ytfkcpaahdlkcdaagreat", sum := "81c37c7b91eae3cb69c83809f76289bfcb929fc0dd88de7726efdd7d3b6cd38e", func := "sculler/scullerlaw17.SendRetries", spec := "sendRetries", unfollowed := true, recurses := true, apart := false, narrowed := true }
def SendRetriesUptoSaid : Prop := sendRetriesUptoRow.holds Tryz.pinned (OpenSpec.upto sendRetriesSpec)

/-- 'scullerlaw17.SendFits', WHERE WHAT IT READS IS OF BULK AT MOST 1048576: true; the input reads as it did. -/
def sendFitsUptoRow : OpenClaim := { program := "ytfkcpaahdlkcdaagreat", sum := "81c37c7b91eae3cb69c83809f76289bfcb929fc0dd88de7726efdd7d3b6cd38e", func := "sculler/scullerlaw17.SendFits", spec := "sendFits", unfollowed := true, recurses := true, apart := false, narrowed := true }
def SendFitsUptoSaid : Prop := sendFitsUptoRow.holds Tryz.pinned (OpenSpec.upto sendFitsSpec)

/-- 'scullerlaw17.SendWindow', WHERE WHAT IT READS IS OF BULK AT MOST 1048576: true; the input reads as it did. -/
def sendWindowUptoRow : OpenClaim := { program := "ytfkcpaahdlkcdaagreat", sum := "81c37c7b91eae3cb69c83809f76289bfcb929fc0dd88de7726efdd7d3b6cd38e", func := "sculler/scullerlaw17.SendWindow", spec := "sendWindow", unfollowed := true, recurses := true, apart := false, narrowed := true }
def SendWindowUptoSaid : Prop := sendWindowUptoRow.holds Tryz.pinned (OpenSpec.upto sendWindowSpec)

/-- 'scullerlaw17.SendForeign', WHERE WHAT IT READS IS OF BULK AT MOST 1048576: true; the input reads as it did. -/
def sendForeignUptoRow : OpenClaim := { program := "ytfkcpaahdlkcdaagreat", sum := "81c37c7b91eae3cb69c83809f76289bfcb929fc0dd88de7726efdd7d3b6cd38e", func := "sculler/scullerlaw17.SendForeign", spec := "sendForeign", unfollowed := true, recurses := true, apart := false, narrowed := true }
def SendForeignUptoSaid : Prop := sendForeignUptoRow.holds Tryz.pinned (OpenSpec.upto sendForeignSpec)

/-- 'scullerlaw17.SendEnds', WHERE WHAT IT READS IS OF BULK AT MOST 1048576: true; the input reads as it did. -/
def sendEndsUptoRow : OpenClaim := { program := "ytfkcpaahdlkcdaagreat", sum := "81c37c7b91eae3cb69c83809f76289bfcb929fc0dd88de7726efdd7d3b6cd38e", func := "sculler/scullerlaw17.SendEnds", spec := "sendEnds", unfollowed := true, recurses := true, apart := false, narrowed := true }
def SendEndsUptoSaid : Prop := sendEndsUptoRow.holds Tryz.pinned (OpenSpec.upto sendEndsSpec)

/-- 'scullerlaw18.RecvReads', WHERE WHAT IT READS IS OF BULK AT MOST 1048576: true; the input reads as it did. -/
def recvReadsUptoRow : OpenClaim := { program := "ytfkcpaahdlkcdaagreat", sum := "81c37c7b91eae3cb69c83809f76289bfcb929fc0dd88de7726efdd7d3b6cd38e", func := "sculler/scullerlaw18.RecvReads", spec := "recvReads", inPlace := ["maps.clone"], unfollowed := true, recurses := true, apart := false, narrowed := true }
def RecvReadsUptoSaid : Prop := recvReadsUptoRow.holds Tryz.pinned (OpenSpec.upto recvReadsSpec)

/-- 'scullerlaw18.RecvSum', WHERE WHAT IT READS IS OF BULK AT MOST 1048576: true; the input reads as it did. -/
def recvSumUptoRow : OpenClaim := { program := "ytfkcpaahdlkcdaagreat", sum := "81c37c7b91eae3cb69c83809f76289bfcb929fc0dd88de7726efdd7d3b6cd38e", func := "sculler/scullerlaw18.RecvSum", spec := "recvSum", inPlace := ["maps.clone"], unfollowed := true, recurses := true, apart := false, narrowed := true }
def RecvSumUptoSaid : Prop := recvSumUptoRow.holds Tryz.pinned (OpenSpec.upto recvSumSpec)

/-- 'scullerlaw18.RecvQuota', WHERE WHAT IT READS IS OF BULK AT MOST 1048576: true; the input reads as it did. -/
def recvQuotaUptoRow : OpenClaim := { program := "ytfkcpaahdlkcdaagreat", sum := "81c37c7b91eae3cb69c83809f76289bfcb929fc0dd88de7726efdd7d3b6cd38e", func := "sculler/scullerlaw18.RecvQuota", spec := "recvQuota", inPlace := ["maps.clone"], unfollowed := true, recurses := true, apart := false, narrowed := true }
def RecvQuotaUptoSaid : Prop := recvQuotaUptoRow.holds Tryz.pinned (OpenSpec.upto recvQuotaSpec)

/-- 'scullerlaw18.RecvToken', WHERE WHAT IT READS IS OF BULK AT MOST 1048576: true; the input reads as it did. -/
def recvTokenUptoRow : OpenClaim := { program := "ytfkcpaahdlkcdaagreat", sum := "81c37c7b91eae3cb69c83809f76289bfcb929fc0dd88de7726efdd7d3b6cd38e", func := "sculler/scullerlaw18.RecvToken", spec := "recvToken", inPlace := ["maps.clone"], unfollowed := true, recurses := true, apart := false, narrowed := true }
def RecvTokenUptoSaid : Prop := recvTokenUptoRow.holds Tryz.pinned (OpenSpec.upto recvTokenSpec)

/-- 'scullerlaw18.RecvCrash', WHERE WHAT IT READS IS OF BULK AT MOST 1048576: true; the input reads as it did. -/
def recvCrashUptoRow : OpenClaim := { program := "ytfkcpaahdlkcdaagreat", sum := "81c37c7b91eae3cb69c83809f76289bfcb929fc0dd88de7726efdd7d3b6cd38e", func := "sculler/scullerlaw18.RecvCrash", spec := "recvCrash", inPlace := ["maps.clone"], unfollowed := true, recurses := true, apart := false, narrowed := true }
def RecvCrashUptoSaid : Prop := recvCrashUptoRow.holds Tryz.pinned (OpenSpec.upto recvCrashSpec)

end Rows
end Go.Proofs.YtfkcpaahdlkcdaaGreat

/-
  No cell of these rows narrows 'for every input' (looked for: loops, veiled, ifaces, maps, wideKeys, modest, calm, conditions, laid).
  DERIVED. THE GIVEN ROWS OF THIS SEAT. 11 by the template 'for every input the law returns true; each argument reads behind the call as it read before'; 0 by the template 'total and deterministic' (their statements: YtimpnbkincgbmaaTotals.lean).
  GIVEN WITH THE SEED: the statements are not yours to turn. If you find one false, say at which input.
  Laid BY PROGRAM, IN A SANDBOX (cutbox-rows.mjs): the forced cells as the released guide's own fill.sh prints them over the translation c855b8e840630807… (all of the seat's roots in one cut). By AI agents, Wed Nov 11 2026. No macro, syntax, notation, axiom, sorry.
-/
import Derived.Test.YtimpnbkincgbmaaChecked
import GoSem.Claim
import GoSem.ClaimJoined
import GoSem.ClaimMapViews
import Derived.JoinedTies
import Derived.KernelRfl
namespace Go.Proofs.Ytimpnbkincgbmaa
/- THE CELL 'sum', in the pinned program and in every row, IS THE sha256 OF THE DUMP (.gsa) THAT YtimpnbkincgbmaaProg.lean LOADS. Nothing in Lean hashes anything: it is a label: what it is worth is what the hold of that sum in a sandbox is worth. -/
noncomputable def Try.pinned : Pinned := { name := "ytimpnbkincgbmaa", sum := "c855b8e840630807ee6b6293f2ce959b519ef1be970a7008c161021804e0f025", checked := Try.checked }
namespace Rows
def none {H : Type} : Left H := { results := [], args := [] }

/-- 'scullerlaw19.NetBends': WHATEVER THE INPUT: true; the input reads as it did. -/
def netBendsSpec : ChangeSpec := { name := "netBends", fn := fun _ => fun
  | [d1, d2, d3] => { results := [.lit (.bool true)], args := [d1, d2, d3] }
  | _ => none }
def netBendsRow : OpenClaim := { program := "ytimpnbkincgbmaa", sum := "c855b8e840630807ee6b6293f2ce959b519ef1be970a7008c161021804e0f025", func := "sculler/scullerlaw19.NetBends", spec := "netBends", apart := false }
def NetBendsSaid : Prop := netBendsRow.holds Try.pinned (OpenSpec.ofChange netBendsSpec)

/-- ITS FALSE NEIGHBOUR: 'it returns false'. Refute it at one input. -/
def netBendsWrong : ChangeSpec := { name := "netBends", fn := fun _ => fun
  | [d1, d2, d3] => { results := [.lit (.bool false)], args := [d1, d2, d3] }
  | _ => none }
def NetBendsWrongFalsely : Prop := netBendsRow.holds Try.pinned (OpenSpec.ofChange netBendsWrong)

/-- 'scullerlaw19.NetOrder': WHATEVER THE INPUT: true; the input reads as it did. -/
def netOrderSpec : ChangeSpec := { name := "netOrder", fn := fun _ => fun
  | [d1, d2] => { results := [.lit (.bool true)], args := [d1, d2] }
  | _ => none }
def netOrderRow : OpenClaim := { program := "ytimpnbkincgbmaa", sum := "c855b8e840630807ee6b6293f2ce959b519ef1be970a7008c161021804e0f025", func := "sculler/scullerlaw19.NetOrder", spec := "netOrder", apart := false }
def NetOrderSaid : Prop := netOrderRow.holds Try.pinned (OpenSpec.ofChange netOrderSpec)

/-- ITS FALSE NEIGHBOUR: 'it returns false'. Refute it at one input. -/
def netOrderWrong : ChangeSpec := { name := "netOrder", fn := fun _ => fun
  | [d1, d2] => { results := [.lit (.bool false)], args := [d1, d2] }
  | _ => none }
def NetOrderWrongFalsely : Prop := netOrderRow.holds Try.pinned (OpenSpec.ofChange netOrderWrong)

/-- 'scullerlaw19.NetDoes': WHATEVER THE INPUT: true; the input reads as it did. -/
def netDoesSpec : ChangeSpec := { name := "netDoes", fn := fun _ => fun
  | [d] => { results := [.lit (.bool true)], args := [d] }
  | _ => none }
def netDoesRow : OpenClaim := { program := "ytimpnbkincgbmaa", sum := "c855b8e840630807ee6b6293f2ce959b519ef1be970a7008c161021804e0f025", func := "sculler/scullerlaw19.NetDoes", spec := "netDoes", apart := false }
def NetDoesSaid : Prop := netDoesRow.holds Try.pinned (OpenSpec.ofChange netDoesSpec)

/-- ITS FALSE NEIGHBOUR: 'it returns false'. Refute it at one input. -/
def netDoesWrong : ChangeSpec := { name := "netDoes", fn := fun _ => fun
  | [d] => { results := [.lit (.bool false)], args := [d] }
  | _ => none }
def NetDoesWrongFalsely : Prop := netDoesRow.holds Try.pinned (OpenSpec.ofChange netDoesWrong)

/-- 'scullerlaw19.NetFull': WHATEVER THE INPUT: true; the input reads as it did. -/
def netFullSpec : ChangeSpec := { name := "netFull", fn := fun _ => fun
  | [d1, d2] => { results := [.lit (.bool true)], args := [d1, d2] }
  | _ => none }
def netFullRow : OpenClaim := { program := "ytimpnbkincgbmaa", sum := "c855b8e840630807ee6b6293f2ce959b519ef1be970a7008c161021804e0f025", func := "sculler/scullerlaw19.NetFull", spec := "netFull", apart := false }
def NetFullSaid : Prop := netFullRow.holds Try.pinned (OpenSpec.ofChange netFullSpec)

/-- ITS FALSE NEIGHBOUR: 'it returns false'. Refute it at one input. -/
def netFullWrong : ChangeSpec := { name := "netFull", fn := fun _ => fun
  | [d1, d2] => { results := [.lit (.bool false)], args := [d1, d2] }
  | _ => none }
def NetFullWrongFalsely : Prop := netFullRow.holds Try.pinned (OpenSpec.ofChange netFullWrong)

/-- 'scullerlaw05.TimerSorts': WHATEVER THE INPUT: true; the input reads as it did. -/
def timerSortsSpec : ChangeSpec := { name := "timerSorts", fn := fun _ => fun
  | [d1, d2] => { results := [.lit (.bool true)], args := [d1, d2] }
  | _ => none }
def timerSortsRow : OpenClaim := { program := "ytimpnbkincgbmaa", sum := "c855b8e840630807ee6b6293f2ce959b519ef1be970a7008c161021804e0f025", func := "sculler/scullerlaw05.TimerSorts", spec := "timerSorts", unfollowed := true, recurses := true, apart := false }
def TimerSortsSaid : Prop := timerSortsRow.holds Try.pinned (OpenSpec.ofChange timerSortsSpec)

/-- ITS FALSE NEIGHBOUR: 'it returns false'. Refute it at one input. -/
def timerSortsWrong : ChangeSpec := { name := "timerSorts", fn := fun _ => fun
  | [d1, d2] => { results := [.lit (.bool false)], args := [d1, d2] }
  | _ => none }
def TimerSortsWrongFalsely : Prop := timerSortsRow.holds Try.pinned (OpenSpec.ofChange timerSortsWrong)

/-- 'scullerlaw05.TimerParts': WHATEVER THE INPUT: true; the input reads as it did. -/
def timerPartsSpec : ChangeSpec := { name := "timerParts", fn := fun _ => fun
  | [d1, d2, d3] => { results := [.lit (.bool true)], args := [d1, d2, d3] }
  | _ => none }
def timerPartsRow : OpenClaim := { program := "ytimpnbkincgbmaa", sum := "c855b8e840630807ee6b6293f2ce959b519ef1be970a7008c161021804e0f025", func := "sculler/scullerlaw05.TimerParts", spec := "timerParts", unfollowed := true, recurses := true, apart := false }
def TimerPartsSaid : Prop := timerPartsRow.holds Try.pinned (OpenSpec.ofChange timerPartsSpec)

/-- ITS FALSE NEIGHBOUR: 'it returns false'. Refute it at one input. -/
def timerPartsWrong : ChangeSpec := { name := "timerParts", fn := fun _ => fun
  | [d1, d2, d3] => { results := [.lit (.bool false)], args := [d1, d2, d3] }
  | _ => none }
def TimerPartsWrongFalsely : Prop := timerPartsRow.holds Try.pinned (OpenSpec.ofChange timerPartsWrong)

/-- 'scullerlaw05.TimerMoves': WHATEVER THE INPUT: true; the input reads as it did. -/
def timerMovesSpec : ChangeSpec := { name := "timerMoves", fn := fun _ => fun
  | [d1, d2, d3, d4] => { results := [.lit (.bool true)], args := [d1, d2, d3, d4] }
  | _ => none }
def timerMovesRow : OpenClaim := { program := "ytimpnbkincgbmaa", sum := "c855b8e840630807ee6b6293f2ce959b519ef1be970a7008c161021804e0f025", func := "sculler/scullerlaw05.TimerMoves", spec := "timerMoves", unfollowed := true, recurses := true, apart := false }
def TimerMovesSaid : Prop := timerMovesRow.holds Try.pinned (OpenSpec.ofChange timerMovesSpec)

/-- ITS FALSE NEIGHBOUR: 'it returns false'. Refute it at one input. -/
def timerMovesWrong : ChangeSpec := { name := "timerMoves", fn := fun _ => fun
  | [d1, d2, d3, d4] => { results := [.lit (.bool false)], args := [d1, d2, d3, d4] }
  | _ => none }
def TimerMovesWrongFalsely : Prop := timerMovesRow.holds Try.pinned (OpenSpec.ofChange timerMovesWrong)

/-- 'scullerlaw05.TimerDrops': WHATEVER THE INPUT: true; the input reads as it did. -/
def timerDropsSpec : ChangeSpec := { name := "timerDrops", fn := fun _ => fun
  | [d1, d2] => { results := [.lit (.bool true)], args := [d1, d2] }
  | _ => none }
def timerDropsRow : OpenClaim := { program := "ytimpnbkincgbmaa", sum := "c855b8e840630807ee6b6293f2ce959b519ef1be970a7008c161021804e0f025", func := "sculler/scullerlaw05.TimerDrops", spec := "timerDrops", unfollowed := true, recurses := true, apart := false }
def TimerDropsSaid : Prop := timerDropsRow.holds Try.pinned (OpenSpec.ofChange timerDropsSpec)

/-- ITS FALSE NEIGHBOUR: 'it returns false'. Refute it at one input. -/
def timerDropsWrong : ChangeSpec := { name := "timerDrops", fn := fun _ => fun
  | [d1, d2] => { results := [.lit (.bool false)], args := [d1, d2] }
  | _ => none }
def TimerDropsWrongFalsely : Prop := timerDropsRow.holds Try.pinned (OpenSpec.ofChange timerDropsWrong)

/-- 'scullerlaw05.TimerDoes': WHATEVER THE INPUT: true; the input reads as it did. -/
def timerDoesSpec : ChangeSpec := { name := "timerDoes", fn := fun _ => fun
  | [d] => { results := [.lit (.bool true)], args := [d] }
  | _ => none }
def timerDoesRow : OpenClaim := { program := "ytimpnbkincgbmaa", sum := "c855b8e840630807ee6b6293f2ce959b519ef1be970a7008c161021804e0f025", func := "sculler/scullerlaw05.TimerDoes", spec := "timerDoes", unfollowed := true, recurses := true, apart := false }
def TimerDoesSaid : Prop := timerDoesRow.holds Try.pinned (OpenSpec.ofChange timerDoesSpec)

/-- ITS FALSE NEIGHBOUR: 'it returns false'. Refute it at one input. -/
def timerDoesWrong : ChangeSpec := { name := "timerDoes", fn := fun _ => fun
  | [d] => { results := [.lit (.bool false)], args := [d] }
  | _ => none }
def TimerDoesWrongFalsely : Prop := timerDoesRow.holds Try.pinned (OpenSpec.ofChange timerDoesWrong)

/-- 'scullerlaw05.TimerFull': WHATEVER THE INPUT: true; the input reads as it did. -/
def timerFullSpec : ChangeSpec := { name := "timerFull", fn := fun _ => fun
  | [d1, d2, d3] => { results := [.lit (.bool true)], args := [d1, d2, d3] }
  | _ => none }
def timerFullRow : OpenClaim := { program := "ytimpnbkincgbmaa", sum := "c855b8e840630807ee6b6293f2ce959b519ef1be970a7008c161021804e0f025", func := "sculler/scullerlaw05.TimerFull", spec := "timerFull", unfollowed := true, recurses := true, apart := false }
def TimerFullSaid : Prop := timerFullRow.holds Try.pinned (OpenSpec.ofChange timerFullSpec)

/-- ITS FALSE NEIGHBOUR: 'it returns false'. Refute it at one input. -/
def timerFullWrong : ChangeSpec := { name := "timerFull", fn := fun _ => fun
  | [d1, d2, d3] => { results := [.lit (.bool false)], args := [d1, d2, d3] }
  | _ => none }
def TimerFullWrongFalsely : Prop := timerFullRow.holds Try.pinned (OpenSpec.ofChange timerFullWrong)

/-- 'scullerlaw05.TimerNil': WHATEVER THE INPUT: true; the input reads as it did. -/
def timerNilSpec : ChangeSpec := { name := "timerNil", fn := fun _ => fun
  | [d1, d2] => { results := [.lit (.bool true)], args := [d1, d2] }
  | _ => none }
def timerNilRow : OpenClaim := { program := "ytimpnbkincgbmaa", sum := "c855b8e840630807ee6b6293f2ce959b519ef1be970a7008c161021804e0f025", func := "sculler/scullerlaw05.TimerNil", spec := "timerNil", unfollowed := true, recurses := true, apart := false }
def TimerNilSaid : Prop := timerNilRow.holds Try.pinned (OpenSpec.ofChange timerNilSpec)

/-- ITS FALSE NEIGHBOUR: 'it returns false'. Refute it at one input. -/
def timerNilWrong : ChangeSpec := { name := "timerNil", fn := fun _ => fun
  | [d1, d2] => { results := [.lit (.bool false)], args := [d1, d2] }
  | _ => none }
def TimerNilWrongFalsely : Prop := timerNilRow.holds Try.pinned (OpenSpec.ofChange timerNilWrong)

/- THE SECOND FORM. 'bulk': how many values and letters a reading holds, each counted each time it is reached (what is shared counts as often as it is met; a slice's spare places count too). A statement '..UptoSaid' is the law's where the arguments, and the package variables that the reading takes, are together of bulk at most 1048576: NARROWER than '..Said'. Prove '..Said' where nothing that the law and all that it calls make is longer than what came in: it says more and counts as full. Else prove '..UptoSaid'. A law counts once. -/
mutual
def uptoBulk {H : Type} : DataW H → Nat
  | .lit (.string bytes) => bytes.length + 1
  | .lit _ => 1
  | .nil => 1
  | .ptr d => uptoBulk d + 1
  | .slice elems spare => uptoBulkAll elems + uptoBulkAll spare + 1
  | .agg parts => uptoBulkAll parts + 1
  | .iface _ d => uptoBulk d + 1
  | .map entries => uptoBulkEntries entries + 1
  | .held _ => 1
def uptoBulkAll {H : Type} : List (DataW H) → Nat
  | [] => 0
  | d :: r => uptoBulk d + uptoBulkAll r
def uptoBulkEntries {H : Type} : List (Lit × DataW H) → Nat
  | [] => 0
  | x :: r => uptoBulkEntry x + uptoBulkEntries r
def uptoBulkEntry {H : Type} : Lit × DataW H → Nat
  | (.string bytes, d) => bytes.length + uptoBulk d + 1
  | (_, d) => uptoBulk d + 1
 end
def uptoSmall : (H : Type) → List (DataW H) → Bool := fun _ ds => decide (uptoBulkAll ds ≤ 1048576)
def OpenSpec.upto (s : _root_.Go.ChangeSpec) : _root_.Go.OpenSpec := { _root_.Go.OpenSpec.ofChange s with cond := some uptoSmall }

/-- 'scullerlaw19.NetBends', WHERE WHAT IT READS IS OF BULK AT MOST 1048576: true; the input reads as it did. -/
def netBendsUptoRow : OpenClaim := { program := "ytimpnbkincgbmaa", sum := "c855b8e840630807ee6b6293f2ce959b519ef1be970a7008c161021804e0f025", func := "sculler/scullerlaw19.NetBends", spec := "netBends", apart := false, narrowed := true }
def NetBendsUptoSaid : Prop := netBendsUptoRow.holds Try.pinned (OpenSpec.upto netBendsSpec)

/-- 'scullerlaw19.NetOrder', WHERE WHAT IT READS IS OF BULK AT MOST 1048576: true; the input reads as it did. -/
def netOrderUptoRow : OpenClaim := { program := "ytimpnbkincgbmaa", sum := "c855b8e840630807ee6b6293f2ce959b519ef1be970a7008c161021804e0f025", func := "sculler/scullerlaw19.NetOrder", spec := "netOrder", apart := false, narrowed := true }
def NetOrderUptoSaid : Prop := netOrderUptoRow.holds Try.pinned (OpenSpec.upto netOrderSpec)

/-- 'scullerlaw19.NetDoes', WHERE WHAT IT READS IS OF BULK AT MOST 1048576: true; the input reads as it did. -/
def netDoesUptoRow : OpenClaim := { program := "ytimpnbkincgbmaa", sum := "c855b8e840630807ee6b6293f2ce959b519ef1be970a7008c161021804e0f025", func := "sculler/scullerlaw19.NetDoes", spec := "netDoes", apart := false, narrowed := true }
def NetDoesUptoSaid : Prop := netDoesUptoRow.holds Try.pinned (OpenSpec.upto netDoesSpec)

/-- 'scullerlaw19.NetFull', WHERE WHAT IT READS IS OF BULK AT MOST 1048576: true; the input reads as it did. -/
def netFullUptoRow : OpenClaim := { program := "ytimpnbkincgbmaa", sum := "c855b8e840630807ee6b6293f2ce959b519ef1be970a7008c161021804e0f025", func := "sculler/scullerlaw19.NetFull", spec := "netFull", apart := false, narrowed := true }
def NetFullUptoSaid : Prop := netFullUptoRow.holds Try.pinned (OpenSpec.upto netFullSpec)

/-- 'scullerlaw05.TimerSorts', WHERE WHAT IT READS IS OF BULK AT MOST 1048576: true; the input reads as it did. -/
def timerSortsUptoRow : OpenClaim := { program := "ytimpnbkincgbmaa", sum := "c855b8e840630807ee6b6293f2ce959b519ef1be970a7008c161021804e0f025", func := "sculler/scullerlaw05.TimerSorts", spec := "timerSorts", unfollowed := true, recurses := true, apart := false, narrowed := true }
def TimerSortsUptoSaid : Prop := timerSortsUptoRow.holds Try.pinned (OpenSpec.upto timerSortsSpec)

/-- 'scullerlaw05.TimerParts', WHERE WHAT IT READS IS OF BULK AT MOST 1048576: true; the input reads as it did. -/
def timerPartsUptoRow : OpenClaim := { program := "ytimpnbkincgbmaa", sum := "c855b8e840630807ee6b6293f2ce959b519ef1be970a7008c161021804e0f025", func := "sculler/scullerlaw05.TimerParts", spec := "timerParts", unfollowed := true, recurses := true, apart := false, narrowed := true }
def TimerPartsUptoSaid : Prop := timerPartsUptoRow.holds Try.pinned (OpenSpec.upto timerPartsSpec)

/-- 'scullerlaw05.TimerMoves', WHERE WHAT IT READS IS OF BULK AT MOST 1048576: true; the input reads as it did. -/
def timerMovesUptoRow : OpenClaim := { program := "ytimpnbkincgbmaa", sum := "c855b8e840630807ee6b6293f2ce959b519ef1be970a7008c161021804e0f025", func := "sculler/scullerlaw05.TimerMoves", spec := "timerMoves", unfollowed := true, recurses := true, apart := false, narrowed := true }
def TimerMovesUptoSaid : Prop := timerMovesUptoRow.holds Try.pinned (OpenSpec.upto timerMovesSpec)

/-- 'scullerlaw05.TimerDrops', WHERE WHAT IT READS IS OF BULK AT MOST 1048576: true; the input reads as it did. -/
def timerDropsUptoRow : OpenClaim := { program := "ytimpnbkincgbmaa", sum := "c855b8e840630807ee6b6293f2ce959b519ef1be970a7008c161021804e0f025", func := "sculler/scullerlaw05.TimerDrops", spec := "timerDrops", unfollowed := true, recurses := true, apart := false, narrowed := true }
def TimerDropsUptoSaid : Prop := timerDropsUptoRow.holds Try.pinned (OpenSpec.upto timerDropsSpec)

/-- 'scullerlaw05.TimerDoes', WHERE WHAT IT READS IS OF BULK AT MOST 1048576: true; the input reads as it did. -/
def timerDoesUptoRow : OpenClaim := { program := "ytimpnbkincgbmaa", sum := "c855b8e840630807ee6b6293f2ce959b519ef1be970a7008c161021804e0f025", func := "sculler/scullerlaw05.TimerDoes", spec := "timerDoes", unfollowed := true, recurses := true, apart := false, narrowed := true }
def TimerDoesUptoSaid : Prop := timerDoesUptoRow.holds Try.pinned (OpenSpec.upto timerDoesSpec)

/-- 'scullerlaw05.TimerFull', WHERE WHAT IT READS IS OF BULK AT MOST 1048576: true; the input reads as it did. -/
def timerFullUptoRow : OpenClaim := { program := "ytimpnbkincgbmaa", sum := "c855b8e840630807ee6b6293f2ce959b519ef1be970a7008c161021804e0f025", func := "sculler/scullerlaw05.TimerFull", spec := "timerFull", unfollowed := true, recurses := true, apart := false, narrowed := true }
def TimerFullUptoSaid : Prop := timerFullUptoRow.holds Try.pinned (OpenSpec.upto timerFullSpec)

/-- 'scullerlaw05.TimerNil', WHERE WHAT IT READS IS OF BULK AT MOST 1048576: true; the input reads as it did. -/
def timerNilUptoRow : OpenClaim := { program := "ytimpnbkincgbmaa", sum := "c855b8e840630807ee6b6293f2ce959b519ef1be970a7008c161021804e0f025", func := "sculler/scullerlaw05.TimerNil", spec := "timerNil", unfollowed := true, recurses := true, apart := false, narrowed := true }
def TimerNilUptoSaid : Prop := timerNilUptoRow.holds Try.pinned (OpenSpec.upto timerNilSpec)

end Rows
end Go.Proofs.Ytimpnbkincgbmaa

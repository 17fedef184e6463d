import Derived.WalkKit
import Derived.ProofKit
import Derived.Deep.RegionHeld3
import Derived.Deep.RegionLaw
import Derived.Deep.QuietTactic
import Derived.BigQuiet
import Derived.Lib.Hide
import Derived.Deep.AppendLies
import Derived.Deep.AppendSrc
import Derived.KernelRfl
import Derived.Handy
import Derived.Lib.SlBytesConst
import Derived.Laws.BytesArg
import Derived.WalkSpells
import Derived.WalkLawsBesides
/-! Plain words on worlds: what stays (Keep), what a fact reads (Foot). -/
set_option linter.unusedSimpArgs false
set_option linter.unusedVariables false
namespace Go.Proofs.Ytimpnbkincgbmaa
open Go.RowKit

/-- Of the blocks that were there, those outside S are as they were. -/
structure Keep (S : Nat → Prop) (w w' : World) : Prop where
  os : w'.os = w.os
  tape : w'.tape = w.tape
  output : w'.output = w.output
  size : w.heap.size ≤ w'.heap.size
  block : ∀ k, k < w.heap.size → ¬ S k → w'.heap[k]? = w.heap[k]?

def NoB : Nat → Prop := fun _ => False
/-- Only new blocks. -/
abbrev Grow (w w' : World) : Prop := Keep NoB w w'

namespace Keep
variable {S T : Nat → Prop} {a b c : World}
theorem refl (S : Nat → Prop) (w : World) : Keep S w w := ⟨rfl, rfl, rfl, Nat.le_refl _, fun _ _ _ => rfl⟩
theorem trans (h : Keep S a b) (k : Keep T b c) (hT : ∀ i, T i → S i ∨ a.heap.size ≤ i) : Keep S a c :=
  ⟨k.os.trans h.os, k.tape.trans h.tape, k.output.trans h.output, Nat.le_trans h.size k.size, fun i hi hS =>
    (k.block i (Nat.lt_of_lt_of_le hi h.size) (fun ht => (hT i ht).elim hS (fun hge => absurd hi (Nat.not_lt.2 hge)))).trans (h.block i hi hS)⟩
theorem mono (h : Keep S a b) (hS : ∀ i, S i → T i) : Keep T a b := ⟨h.os, h.tape, h.output, h.size, fun i hi hT => h.block i hi (fun hs => hT (hS i hs))⟩
theorem grow (h : Keep S a b) (k : Grow b c) : Keep S a c := h.trans k (fun _ hf => hf.elim)
theorem drew (h : Keep S a b) : Keep S a b.drew := ⟨h.os, h.tape, h.output, h.size, h.block⟩
theorem drewN (h : Keep S a b) (n : Nat) : Keep S a (b.drewN n) := ⟨h.os, h.tape, h.output, h.size, h.block⟩
theorem alloc (h : Keep S a b) (o : Obj) : Keep S a (b.alloc o) :=
  h.trans (T := NoB) ⟨rfl, rfl, rfl, by simp, fun k hk _ => Below.heap_alloc _ _ _ hk⟩ (fun _ hf => hf.elim)
theorem setCell (h : Keep S a b) {p : Addr} (hp : S p.block ∨ a.heap.size ≤ p.block) (u : Value) : Keep S a (b.setCell p u) :=
  h.trans (T := fun k => k = p.block) ⟨rfl, rfl, rfl, by simp [World.setCell], fun k _ hne => Below.heap_setCell _ _ _ _ hne⟩ (fun i hi => by rw [hi]; exact hp)
theorem grown (h : Keep S a b) {row : Option Nat} (hg : b.grownBy c row) (hr : ∀ k, row = some k → S k ∨ a.heap.size ≤ k) : Keep S a c :=
  h.trans (T := fun k => row = some k) ⟨hg.os, hg.tape, hg.output, hg.size, fun k hk hne => hg.block k hk (fun e => hne e.symm)⟩ hr
theorem of_below (h : Below a.heap.size a b) : Grow a b := ⟨h.os, h.tape, h.output, h.size, fun k hk _ => h.block k hk⟩
theorem below (h : Keep S a b) (B : Nat) (hB : B ≤ a.heap.size) (hS : ∀ i, S i → B ≤ i) : Below B a b :=
  ⟨h.os, h.tape, h.output, h.size, fun k hk => h.block k (Nat.lt_of_lt_of_le hk hB) (fun hs => absurd hk (Nat.not_lt.2 (hS k hs)))⟩
theorem new (h : Keep S a b) (hS : ∀ i, S i → a.heap.size ≤ i) : Grow a b := ⟨h.os, h.tape, h.output, h.size, fun k hk _ => h.block k hk (fun hs => absurd hk (Nat.not_lt.2 (hS k hs)))⟩
theorem cell (h : Keep S a b) {p : Addr} {v : Value} (hc : a.cell? p = some v) (hS : ¬ S p.block) : b.cell? p = some v :=
  (World.cell?_of_block (w := a) (h.block p.block (World.block_lt_of_cell? _ _ hc) hS)).trans hc
theorem frozen (h : Keep S a b) {p : Addr} (hc : p.block < a.heap.size) (hS : ¬ S p.block) : b.frozen? p = a.frozen? p :=
  World.frozen?_of_block (w := a) (h.block p.block hc hS)
end Keep

/-- P holds in W and in every world that has W's blocks of F. -/
def Foot (P : World → Prop) (W : World) (F : Nat → Prop) : Prop := (∀ k, F k → k < W.heap.size) ∧ ∀ W' : World, (∀ k, F k → W'.heap[k]? = W.heap[k]?) → P W'

namespace Foot
variable {P Q : World → Prop} {W W' : World} {F G S : Nat → Prop}
theorem now (h : Foot P W F) : P W := h.2 W (fun _ _ => rfl)
theorem lt (h : Foot P W F) {k : Nat} (hk : F k) : k < W.heap.size := h.1 k hk
theorem keep (h : Foot P W F) (hk : Keep S W W') (hd : ∀ k, F k → ¬ S k) : Foot P W' F :=
  ⟨fun k hF => Nat.lt_of_lt_of_le (h.1 k hF) hk.size, fun W2 h2 => h.2 W2 (fun k hF => (h2 k hF).trans (hk.block k (h.1 k hF) (hd k hF)))⟩
theorem grow (h : Foot P W F) (hk : Grow W W') : Foot P W' F := h.keep hk (fun _ _ hf => hf.elim)
theorem imp (h : Foot P W F) (hi : ∀ W', P W' → Q W') : Foot Q W F := ⟨h.1, fun W' hW => hi W' (h.2 W' hW)⟩
theorem and (h : Foot P W F) (k : Foot Q W G) : Foot (fun w => P w ∧ Q w) W (fun i => F i ∨ G i) :=
  ⟨fun i hi => hi.elim (h.1 i) (k.1 i), fun W' hW => ⟨h.2 W' (fun i hi => hW i (.inl hi)), k.2 W' (fun i hi => hW i (.inr hi))⟩⟩
theorem mono (h : Foot P W F) (hG : ∀ k, G k → k < W.heap.size) (hFG : ∀ k, F k → G k) : Foot P W G := ⟨hG, fun W' hW => h.2 W' (fun k hk => hW k (hFG k hk))⟩
end Foot

theorem eql_nil {P : Program} {t e : TypeId} (h : P.underlying t = some (.slice e)) (w : World) (a : Option Addr) (n c : Nat) : (binOp .eql t (.slice a n c) (.slice none 0 0)).run P w = .ok (.bool a.isNone) w := by
  simp only [binOp]
  simp [Op.equal, Op.maxDepth, Lib.run_equalIn_slice_nil w 9999 t e a n c 0 0 h]

end Go.Proofs.Ytimpnbkincgbmaa

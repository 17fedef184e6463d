import Derived.Test.YtimpnbkincgbmaaTmK
import Derived.Maps.OwnSet
set_option linter.unusedSimpArgs false
set_option linter.unusedVariables false
namespace Go.Proofs.Ytimpnbkincgbmaa
open Go.RowKit

/-! ### the map -/
def pR : Value → Option (DataW Unit × List MemPlace)
  | .pointer none => some (.nil, [])
  | .pointer (some ⟨b, 0, none⟩) => some (.lit (.int .u64 b), [])
  | _ => none
theorem pR_nil {v : Value} {ps : List MemPlace} (h : pR v = some (.nil, ps)) : v = .pointer none := by
  unfold pR at h
  split at h <;> simp_all
theorem pR_some {v : Value} {b : Nat} {ps : List MemPlace} (h : pR v = some (.lit (.int .u64 b), ps)) : v = .pointer (some ⟨b, 0, none⟩) := by
  unfold pR at h
  split at h <;> simp_all
  omega
theorem u_int : Try.prog.underlying 3 = some (.int .i64) := Try.underlying3
theorem u_map : Try.prog.underlying 89 = some (.map 3 94) := Try.underlying89
theorem keyed_int : Maps.Keyed Try.prog 3 := Maps.int_keyed u_int
abbrev okI (k : Int) : Prop := (Lit.int .i64 k).wf = true
theorem key_int {k : Int} (h : okI k) : keyOf Try.prog 3 (.int .i64 k) = some (.int .i64 k) := Maps.keyOf_int_mk u_int h
theorem zero_ip (w : World) : (zeroValue 94).run Try.prog w = .ok (.pointer none) w := by
  go_simp
theorem isKey (k : Int) : WideAt.IsKeyLit (.int .i64 k) := trivial

/-- The map leads from each key to its item's block. -/
def MapIs (mb n : Nat) (a : Nat → It) (w : World) : Prop :=
  ∃ D : DataW Unit, w.ownsMap Try.prog 3 pR mb n D ∧ Maps.size D = n ∧ ∀ k, okI k → (∃ i, i < n ∧ (a i).k = k ∧ ∀ z, D.atKey (.int .i64 k) z = .lit (.int .u64 (a i).b)) ∨ ((∀ i, i < n → (a i).k ≠ k) ∧ ∀ z, D.atKey (.int .i64 k) z = z)

theorem tight {w : World} {mb n : Nat} {D : DataW Unit} (h : w.ownsMap Try.prog 3 pR mb n D) : w.ownsMap Try.prog 3 pR mb (Maps.size D) D := by
  obtain ⟨es, clock, hb, F, hs, rfl⟩ := h
  refine ⟨es, clock, hb, F, ?_, rfl⟩
  rw [Maps.size_eq, length_sorted]
  simp
theorem ownsMap_keep {S : Nat → Prop} {w w' : World} {mb n : Nat} {D : DataW Unit} (h : w.ownsMap Try.prog 3 pR mb n D) (hk : Keep S w w') (hS : ¬ S mb) : w'.ownsMap Try.prog 3 pR mb n D := by
  obtain ⟨es, clock, hb, r⟩ := h
  exact ⟨es, clock, (hk.block mb (Array.getElem?_eq_some_iff.1 hb).1 hS).trans hb, r⟩
theorem MapIs.keep {S : Nat → Prop} {w w' : World} {mb n : Nat} {a : Nat → It} (h : MapIs mb n a w) (hk : Keep S w w') (hS : ¬ S mb) : MapIs mb n a w' := by
  obtain ⟨D, h1, h2⟩ := h
  exact ⟨D, ownsMap_keep h1 hk hS, h2⟩
/-- The same items, in another order. -/
theorem MapIs.same {w : World} {mb n : Nat} {a b : Nat → It} (h : MapIs mb n a w) (hs : Same a b n) : MapIs mb n b w := by
  obtain ⟨D, h1, h2, h3⟩ := h
  refine ⟨D, h1, h2, fun k hk => ?_⟩
  rcases h3 k hk with ⟨i, hi, e, hz⟩ | ⟨hno, hz⟩
  · obtain ⟨j, hj, e2⟩ := hs.of i hi
    exact .inl ⟨j, hj, by rw [← e2]; exact e, fun z => by rw [← e2]; exact hz z⟩
  · refine .inr ⟨fun i hi => ?_, hz⟩
    obtain ⟨j, hj, e2⟩ := hs.to i hi
    rw [e2]
    exact hno j hj
theorem MapIs.look {w : World} {mb n : Nat} {a : Nat → It} (h : MapIs mb n a w) {k : Int} (hk : okI k) :
    (∃ i, i < n ∧ (a i).k = k ∧ (Instr.lookup 89 (.map (some mb)) (.int .i64 k) false).run Try.prog w = .ok (.pointer (some ⟨(a i).b, 0, none⟩)) w) ∨
    ((∀ i, i < n → (a i).k ≠ k) ∧ (Instr.lookup 89 (.map (some mb)) (.int .i64 k) false).run Try.prog w = .ok (.pointer none) w) := by
  obtain ⟨D, h1, h2, h3⟩ := h
  obtain ⟨v, ps, hr, hv⟩ := h1.lookup keyed_int u_map (zero_ip w) (zd := .nil) (zp := []) rfl (key_int hk)
  rcases h3 k hk with ⟨i, hi, e, hz⟩ | ⟨hno, hz⟩
  · rw [hz] at hv
    rw [pR_some hv] at hr
    exact .inl ⟨i, hi, e, hr⟩
  · rw [hz] at hv
    rw [pR_nil hv] at hr
    exact .inr ⟨hno, hr⟩

/-! ### the queue -/
structure QueIs (q n : Nat) (a : Nat → It) (v : Value) (mb : Nat) (F : Nat → Prop) (w : World) : Prop where
  arr : Arr q n a v (.map (some mb)) F w
  heap : HeapN a n
  map : MapIs mb n a w
  nmb : ¬ F mb
  okk : ∀ i, i < n → okI (a i).k
  kinj : ∀ i j, i < n → j < n → (a i).k = (a j).k → i = j
abbrev KT : Type := Int × Int
/-- No key twice. -/
def ND (l : List KT) : Prop := l.Pairwise (fun x y => x.1 ≠ y.1)
/-- What the list says of the items. -/
structure Says (n : Nat) (a : Nat → It) (l : List KT) : Prop where
  len : l.length = n
  nd : ND l
  mem : ∀ x, x ∈ l ↔ ∃ i, i < n ∧ x = ((a i).k, (a i).t)
/-- A queue at block q: its keys and times; F: its blocks. -/
def Que (q : Nat) (l : List KT) (F : Nat → Prop) (w : World) : Prop := ∃ n a v mb F', QueIs q n a v mb F' w ∧ Says n a l ∧ ∀ k, F' k ∨ k = mb → F k

theorem QueIs.keep {q n : Nat} {a : Nat → It} {v : Value} {mb : Nat} {F S : Nat → Prop} {w w' : World} (h : QueIs q n a v mb F w) (hk : Keep S w w') (hd : ∀ k, F k ∨ k = mb → ¬ S k) : QueIs q n a v mb F w' :=
  ⟨h.arr.keep hk (fun k hF => hd k (.inl hF)), h.heap, h.map.keep hk (hd mb (.inr rfl)), h.nmb, h.okk, h.kinj⟩
theorem Que.keep {q : Nat} {l : List KT} {F S : Nat → Prop} {w w' : World} (h : Que q l F w) (hk : Keep S w w') (hd : ∀ k, F k → ¬ S k) : Que q l F w' := by
  obtain ⟨n, a, v, mb, F', h1, h2, h3⟩ := h
  exact ⟨n, a, v, mb, F', h1.keep hk (fun k hF => hd k (h3 k hF)), h2, h3⟩
theorem Que.grow {q : Nat} {l : List KT} {F : Nat → Prop} {w w' : World} (h : Que q l F w) (hk : Grow w w') : Que q l F w' := h.keep hk (fun _ _ h => h)
theorem Que.few {q : Nat} {l : List KT} {F : Nat → Prop} {w : World} (h : Que q l F w) : l.length ≤ 1000 := by
  obtain ⟨n, a, v, mb, F', h1, h2, h3⟩ := h
  rw [h2.len]
  exact h1.arr.few

set_option maxRecDepth 100000 in
theorem tnew_calls (w : World) : Calls Try.prog 26 #[] w fun e w' => ∃ q F, e = .returned (.pointer (some ⟨q, 0, none⟩)) ∧ Que q [] F w' ∧ Grow w w' ∧ (∀ k, F k → w.heap.size ≤ k ∧ k < w'.heap.size) := by
  have hm := @run_makeMap Try.prog
  go_enter Try.func26, Try.ntmps26
  go_wp2
  go_ret
  have hcell := heap_alloc_new (w.alloc (.map #[] 0)) (.cells #[.slice none 0 0, .map (some w.heap.size)] 93)
  have hsz : (w.alloc (.map #[] 0)).heap.size = w.heap.size + 1 := by simp
  rw [hsz] at hcell
  refine ⟨w.heap.size + 1, fun k => k = w.heap.size + 1 ∨ k = w.heap.size, rfl, ⟨0, fun _ => ⟨0, 0, 0⟩, .slice none 0 0, w.heap.size, fun k => k = w.heap.size + 1, ⟨⟨hcell, World.ownsRow_nil _ _ _ _, fun i hi => by omega, fun i j hi => by omega, by omega, rfl, by simp [Value.ownBlock], fun i hi => by omega, fun k hk => by rw [hk]; simp⟩, fun k h0 hk => by omega, ?_, by omega, fun i hi => by omega, fun i j hi => by omega⟩, ⟨rfl, List.Pairwise.nil, fun x => ⟨fun h => (by cases h), fun ⟨i, hi, _⟩ => (by omega)⟩⟩, fun k h => h⟩, ?_, ?_⟩
  · exact ⟨.map [], (World.ownsMap_made w _ _ _).alloc _, rfl, fun k hk => .inr ⟨fun i hi => by omega, fun z => rfl⟩⟩
  · exact ((Keep.refl _ _).alloc _).alloc _
  · intro k hk
    rcases hk with h | h <;> rw [h] <;> simp <;> omega
theorem tlen_nil (w : World) : Calls Try.prog 29 #[.pointer none] w fun e w' => e = .returned (.int .i64 0) ∧ w = w' := by
  go_enter Try.func29, Try.ntmps29
  go_wp2
  go_ret
  exact ⟨rfl, rfl⟩
theorem tlen_is {q n : Nat} {a : Nat → It} {v mv : Value} {F : Nat → Prop} {w : World} (h : Arr q n a v mv F w) : Calls Try.prog 29 #[.pointer (some ⟨q, 0, none⟩)] w fun e w' => e = .returned (.int .i64 n) ∧ w = w' := by
  obtain ⟨A, c, rfl⟩ := h.slice
  have hc := h.cell0
  clear h
  go_enter Try.func29, Try.ntmps29
  go_wp2
  go_ret
  exact ⟨rfl, rfl⟩
theorem tlen_calls {q : Nat} {l : List KT} {F : Nat → Prop} {w : World} (h : Que q l F w) : Calls Try.prog 29 #[.pointer (some ⟨q, 0, none⟩)] w fun e w' => e = .returned (.int .i64 l.length) ∧ w = w' := by
  obtain ⟨n, a, v, mb, F', h1, h2, h3⟩ := h
  rw [h2.len]
  exact tlen_is h1.arr
end Go.Proofs.Ytimpnbkincgbmaa

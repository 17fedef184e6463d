import Derived.Test.YtimpnbkincgbmaaTmH
set_option linter.unusedSimpArgs false
set_option linter.unusedVariables false
namespace Go.Proofs.Ytimpnbkincgbmaa
open Go.RowKit

theorem Arr.cell0 {q n : Nat} {a : Nat → It} {A : Option Addr} {c : Nat} {mv : Value} {F : Nat → Prop} {w : World} (h : Arr q n a (.slice A n c) mv F w) : w.cell? ⟨q, 0, none⟩ = some (.slice A n c) := by
  rw [cell_of_row w q 0 _ _ _ h.cell]; rfl

/-- What up and down know. -/
structure Hp (q N n : Nat) (a a' : Nat → It) (v mv : Value) (F : Nat → Prop) (w w' : World) : Prop where
  arr : Arr q N a' v mv F w'
  same : Same a a' n
  keep : Keep F w w'
theorem Hp.grow {q N n : Nat} {a a' : Nat → It} {v mv : Value} {F : Nat → Prop} {w w' w2 : World} (h : Hp q N n a a' v mv F w w') (hg : Grow w' w2) : Hp q N n a a' v mv F w w2 := ⟨h.arr.grow hg, h.same, h.keep.grow hg⟩
theorem Hp.swp {q N n : Nat} {a a' : Nat → It} {v mv : Value} {F : Nat → Prop} {w w' w2 : World} (h : Hp q N n a a' v mv F w w') {i j : Nat} (hi : i < n) (hj : j < n) (h2 : Arr q N (swp a' i j) v mv F w2) (hk : Keep F w' w2) : Hp q N n a (Go.Proofs.Ytimpnbkincgbmaa.swp a' i j) v mv F w w2 :=
  ⟨h2, h.same.trans (Same.swp a' hi hj), h.keep.trans hk (fun i hi => .inl hi)⟩

set_option maxRecDepth 100000 in
theorem up_calls (q N n : Nat) (a : Nat → It) (v mv : Value) (F : Nat → Prop) (w : World) (h : Arr q N a v mv F w) (hnN : n ≤ N) (j : Nat) (hj : j < n) (hU : UpI a n j) :
    Calls Try.prog 55 #[.iface 98 (.pointer (some ⟨q, 0, none⟩)), .int .i64 j] w fun e w' => e = .returned (.tuple #[]) ∧ ∃ a', Hp q N n a a' v mv F w w' ∧ HeapN a' n := by
  obtain ⟨A, c, rfl⟩ := h.slice
  have hfew := h.few
  have HH : Hid (Hp q N n a a (.slice A N c) mv F w w) := ⟨h, Same.refl _ _, Keep.refl _ _⟩
  have HU := Lib.hid hU
  clear h hU
  go_enter Try.func55, Try.ntmps55
  go_wp2
  go_loopw [1] (fun v wr => ∃ j a', j < n ∧ v = .int .i64 (j : Nat) ∧ Hid (Hp q N n a a' (.slice A N c) mv F w wr) ∧ Hid (UpI a' n j)) (fun v _ => (intOf v).toNat)
  case atStart => exact ⟨j, a, hj, rfl, HH, HU⟩
  case round =>
    clear HH HU hj j
    obtain ⟨j, a', hj, rfl, HH, HU⟩ := hrel
    rcases Nat.eq_zero_or_pos j with h0 | h0
    · subst h0
      go_wp2
      go_end0
      exact ⟨rfl, a', HH.out, HU.out.zero⟩
    · obtain ⟨m, rfl⟩ : ∃ m, j = m + 1 := ⟨j - 1, by omega⟩
      have hw : IntKind.i64.wrap (((m + 1 : Nat) : Int) - 1) = (m : Int) := by rw [show (((m + 1 : Nat) : Int) - 1) = (m : Int) from by omega]; exact IntWalk.i64_in _ (by omega)
      have hm := meth_less q A N c wr HH.out.arr.cell0
      have hne : ¬ ((m : Int) / 2 = (m : Int) + 1) := by omega
      have hne2 : ((m : Int) / 2 == (m : Int) + 1) = false := beq_eq_false_iff_ne.2 hne
      go_wp2_with fail
      have hpar : (m + 1 - 1) / 2 = m / 2 := by simp
      refine (less_calls q N a' _ mv F wr HH.out.arr (m + 1) (m / 2) (by omega) (by omega)).mono ?_
      rintro e w2 ⟨rfl, hg⟩
      have HH2 := Lib.hid (HH.out.grow hg)
      have hm2 := meth_swap q A N c w2 HH2.out.arr.cell0
      clear hg HH hm
      cases hl : (a' (m + 1)).less (a' (m / 2)) with
      | false =>
        have hstop : Hid (HeapN a' n) := HU.out.stop (by rw [hpar]; exact It.le_of_not hl)
        clear hl
        go_wp2
        go_end0
        exact ⟨rfl, a', HH2.out, hstop.out⟩
      | true =>
        have hU' := HU.out.step (by omega) hj (by rw [hpar]; exact It.le_of_less hl)
        rw [hpar] at hU'
        have HU' := Lib.hid hU'
        clear hl hU' HU
        go_wp2_with fail
        refine (swap_calls q N a' _ mv F w2 HH2.out.arr (m / 2) (m + 1) (by omega) (by omega) (by omega)).mono ?_
        rintro e w3 ⟨rfl, h3, hk⟩
        have HH3 := Lib.hid (HH2.out.swp (i := m / 2) (j := m + 1) (by omega) hj h3 hk)
        clear h3 hk
        go_wp2
        go_roundw
        case rel => exact ⟨m / 2, _, by omega, rfl, HH3, HU'⟩
        case measure => simp [intOf]; omega
end Go.Proofs.Ytimpnbkincgbmaa

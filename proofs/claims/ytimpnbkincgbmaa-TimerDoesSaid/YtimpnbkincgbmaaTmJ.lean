import Derived.Test.YtimpnbkincgbmaaTmI
set_option linter.unusedSimpArgs false
set_option linter.unusedVariables false
namespace Go.Proofs.Ytimpnbkincgbmaa
open Go.RowKit

set_option maxRecDepth 100000 in
set_option maxHeartbeats 2000000 in
theorem down_calls (q N n : Nat) (a : Nat → It) (v mv : Value) (F : Nat → Prop) (w : World) (h : Arr q N a v mv F w) (hnN : n ≤ N) (i0 : Nat) (hi0 : i0 < n) (hD : DnI a n i0 i0) :
    Calls Try.prog 54 #[.iface 98 (.pointer (some ⟨q, 0, none⟩)), .int .i64 i0, .int .i64 n] w fun e w' => ∃ x a', e = .returned (.bool (decide (i0 < x))) ∧ Hp q N n a a' v mv F w w' ∧ (i0 < x → HeapN a' n) ∧ (¬ i0 < x → UpI a' n i0) := by
  obtain ⟨A, c, rfl⟩ := h.slice
  have hfew := h.few
  have HH : Hid (Hp q N n a a (.slice A N c) mv F w w) := ⟨h, Same.refl _ _, Keep.refl _ _⟩
  have HD := Lib.hid hD
  clear h hD
  go_enter Try.func54, Try.ntmps54
  go_wp2
  go_loopw [7] (fun v wr => ∃ i a', i < n ∧ v = .int .i64 (i : Nat) ∧ Hid (Hp q N n a a' (.slice A N c) mv F w wr) ∧ Hid (DnI a' n i0 i)) (fun v _ => n - (intOf v).toNat)
  case atStart => exact ⟨i0, a, hi0, rfl, HH, HD⟩
  case round =>
    clear HH HD
    obtain ⟨i, a', hi, rfl, HH, HD⟩ := hrel
    have hge := HD.out.ge
    have w1 : IntKind.i64.wrap (2 * (i : Int)) = 2 * (i : Int) := IntWalk.i64_in _ (by omega)
    have w2 : IntKind.i64.wrap (2 * (i : Int) + 1) = 2 * (i : Int) + 1 := IntWalk.i64_in _ (by omega)
    have w3 : IntKind.i64.wrap (2 * (i : Int) + 1 + 1) = 2 * (i : Int) + 1 + 1 := IntWalk.i64_in _ (by omega)
    have w4 : ¬ (2 * (i : Int) + 1 < 0) := by omega
    by_cases hc1 : (n : Int) ≤ 2 * (i : Int) + 1
    · have hx : ∀ k, 0 < k → k < n → (k - 1) / 2 = i → (a' i).le (a' k) := fun k h0 hk hp => by omega
      have hfin : Hid ((i ≠ i0 → HeapN a' n) ∧ (i = i0 → UpI a' n i0)) := ⟨fun e => HD.out.done hx e, fun e => by subst e; exact HD.out.same hx⟩
      clear hx
      go_wp2
      go_ret
      exact ⟨i, rfl, a', HH.out, fun e => hfin.out.1 (by omega), fun e => hfin.out.2 (by omega)⟩
    · by_cases hc2 : 2 * (i : Int) + 1 + 1 < n
      · have hm := meth_less q A N c wr HH.out.arr.cell0
        go_wp2_with fail
        refine (less_calls q N a' _ mv F wr HH.out.arr (2 * i + 1 + 1) (2 * i + 1) (by omega) (by omega)).mono ?_
        rintro e wq ⟨rfl, hg⟩
        have HH4 := Lib.hid (HH.out.grow hg)
        have hm4 := meth_less q A N c wq HH4.out.arr.cell0
        clear hg HH hm
        cases hb : (a' (2 * i + 1 + 1)).less (a' (2 * i + 1)) with
        | false =>
          have hmin : Hid (∀ k, 0 < k → k < n → (k - 1) / 2 = i → (a' (2 * i + 1)).le (a' k)) := fun k h0 hk hp => by
            rcases (show k = 2 * i + 1 ∨ k = 2 * i + 1 + 1 from by omega) with e | e
            · rw [e]; exact It.le_refl _
            · rw [e]; exact It.le_of_not hb
          clear hb
          go_wp2_with fail
          refine (less_calls q N a' _ mv F wq HH4.out.arr (2 * i + 1) i (by omega) (by omega)).mono ?_
          rintro e w5 ⟨rfl, hg5⟩
          have HH5 := Lib.hid (HH4.out.grow hg5)
          have hm5 := meth_swap q A N c w5 HH5.out.arr.cell0
          clear hg5 HH4
          cases hl : (a' (2 * i + 1)).less (a' i) with
          | false =>
            have hx : ∀ k, 0 < k → k < n → (k - 1) / 2 = i → (a' i).le (a' k) := fun k h0 hk hp => It.le_trans (It.le_of_not hl) (hmin.out k h0 hk hp)
            have hfin : Hid ((i ≠ i0 → HeapN a' n) ∧ (i = i0 → UpI a' n i0)) := ⟨fun e => HD.out.done hx e, fun e => by subst e; exact HD.out.same hx⟩
            clear hl hx hm5
            go_wp2
            go_ret
            exact ⟨i, a', rfl, HH5.out, fun e => hfin.out.1 (by omega), fun e => hfin.out.2 (by omega)⟩
          | true =>
            have HD' := Lib.hid (HD.out.step (j := (2 * i + 1)) (by omega) (by omega) (by omega) (It.le_of_less hl) hmin.out)
            clear hl HD hmin
            go_wp2_with fail
            refine (swap_calls q N a' _ mv F w5 HH5.out.arr i (2 * i + 1) (by omega) (by omega) (by omega)).mono ?_
            rintro e w6 ⟨rfl, h6, hk6⟩
            have HH6 := Lib.hid (HH5.out.swp (i := i) (j := (2 * i + 1)) (by omega) (by omega) h6 hk6)
            clear h6 hk6 HH5 hm5
            go_wp2
            go_roundw
            case rel => exact ⟨(2 * i + 1), _, by omega, by go_num, HH6, HD'⟩
            case measure => simp [intOf]; omega
        | true =>
          have hmin : Hid (∀ k, 0 < k → k < n → (k - 1) / 2 = i → (a' (2 * i + 1 + 1)).le (a' k)) := fun k h0 hk hp => by
            rcases (show k = 2 * i + 1 ∨ k = 2 * i + 1 + 1 from by omega) with e | e
            · rw [e]; exact It.le_of_less hb
            · rw [e]; exact It.le_refl _
          clear hb
          go_wp2_with fail
          refine (less_calls q N a' _ mv F wq HH4.out.arr (2 * i + 1 + 1) i (by omega) (by omega)).mono ?_
          rintro e w5 ⟨rfl, hg5⟩
          have HH5 := Lib.hid (HH4.out.grow hg5)
          have hm5 := meth_swap q A N c w5 HH5.out.arr.cell0
          clear hg5 HH4
          cases hl : (a' (2 * i + 1 + 1)).less (a' i) with
          | false =>
            have hx : ∀ k, 0 < k → k < n → (k - 1) / 2 = i → (a' i).le (a' k) := fun k h0 hk hp => It.le_trans (It.le_of_not hl) (hmin.out k h0 hk hp)
            have hfin : Hid ((i ≠ i0 → HeapN a' n) ∧ (i = i0 → UpI a' n i0)) := ⟨fun e => HD.out.done hx e, fun e => by subst e; exact HD.out.same hx⟩
            clear hl hx hm5
            go_wp2
            go_ret
            exact ⟨i, a', rfl, HH5.out, fun e => hfin.out.1 (by omega), fun e => hfin.out.2 (by omega)⟩
          | true =>
            have HD' := Lib.hid (HD.out.step (j := (2 * i + 1 + 1)) (by omega) (by omega) (by omega) (It.le_of_less hl) hmin.out)
            clear hl HD hmin
            go_wp2_with fail
            refine (swap_calls q N a' _ mv F w5 HH5.out.arr i (2 * i + 1 + 1) (by omega) (by omega) (by omega)).mono ?_
            rintro e w6 ⟨rfl, h6, hk6⟩
            have HH6 := Lib.hid (HH5.out.swp (i := i) (j := (2 * i + 1 + 1)) (by omega) (by omega) h6 hk6)
            clear h6 hk6 HH5 hm5
            go_wp2
            go_roundw
            case rel => exact ⟨(2 * i + 1 + 1), _, by omega, by go_num, HH6, HD'⟩
            case measure => simp [intOf]; omega
      · have hm := meth_less q A N c wr HH.out.arr.cell0
        have hmin : Hid (∀ k, 0 < k → k < n → (k - 1) / 2 = i → (a' (2 * i + 1)).le (a' k)) := fun k h0 hk hp => by
          rw [show k = 2 * i + 1 from by omega]; exact It.le_refl _
        go_wp2_with fail
        refine (less_calls q N a' _ mv F wr HH.out.arr (2 * i + 1) i (by omega) (by omega)).mono ?_
        rintro e w5 ⟨rfl, hg5⟩
        have HH5 := Lib.hid (HH.out.grow hg5)
        have hm5 := meth_swap q A N c w5 HH5.out.arr.cell0
        clear hg5 HH
        cases hl : (a' (2 * i + 1)).less (a' i) with
        | false =>
          have hx : ∀ k, 0 < k → k < n → (k - 1) / 2 = i → (a' i).le (a' k) := fun k h0 hk hp => It.le_trans (It.le_of_not hl) (hmin.out k h0 hk hp)
          have hfin : Hid ((i ≠ i0 → HeapN a' n) ∧ (i = i0 → UpI a' n i0)) := ⟨fun e => HD.out.done hx e, fun e => by subst e; exact HD.out.same hx⟩
          clear hl hx hm5
          go_wp2
          go_ret
          exact ⟨i, a', rfl, HH5.out, fun e => hfin.out.1 (by omega), fun e => hfin.out.2 (by omega)⟩
        | true =>
          have HD' := Lib.hid (HD.out.step (j := (2 * i + 1)) (by omega) (by omega) (by omega) (It.le_of_less hl) hmin.out)
          clear hl HD hmin
          go_wp2_with fail
          refine (swap_calls q N a' _ mv F w5 HH5.out.arr i (2 * i + 1) (by omega) (by omega) (by omega)).mono ?_
          rintro e w6 ⟨rfl, h6, hk6⟩
          have HH6 := Lib.hid (HH5.out.swp (i := i) (j := (2 * i + 1)) (by omega) (by omega) h6 hk6)
          clear h6 hk6 HH5 hm5
          go_wp2
          go_roundw
          case rel => exact ⟨(2 * i + 1), _, by omega, by go_num, HH6, HD'⟩
          case measure => simp [intOf]; omega
end Go.Proofs.Ytimpnbkincgbmaa

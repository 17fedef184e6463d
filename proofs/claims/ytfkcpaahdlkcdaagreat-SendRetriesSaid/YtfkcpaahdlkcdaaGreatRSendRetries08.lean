import Derived.Test.YtfkcpaahdlkcdaaGreatRSendRetries07
import Derived.Maps.OwnSet
set_option linter.unusedSimpArgs false
set_option linter.unusedVariables false
set_option maxRecDepth 100000
set_option maxHeartbeats 16000000
namespace Go.Proofs.YtfkcpaahdlkcdaaGreat
open Go.RowKit
theorem Arr.cell0 {q n : Nat} {a : Nat → It} {A : Option Addr} {c : Nat} {mv : Value} {F : Nat → Prop} {w : World} (h : Arr q n a (.slice A n c) mv F w) : w.cell? ⟨q, 0, none⟩ = some (.slice A n c) := by
 rw [cell_of_row w q 0 _ _ _ h.cell]; rfl
structure Hp (q N n : Nat) (a a' : Nat → It) (v mv : Value) (F : Nat → Prop) (w w' : World) : Prop where
 arr : Arr q N a' v mv F w'
 same : Same a a' n
 keep : Keep F w w'
theorem Hp.grow {q N n : Nat} {a a' : Nat → It} {v mv : Value} {F : Nat → Prop} {w w' w2 : World} (h : Hp q N n a a' v mv F w w') (hg : Grow w' w2) : Hp q N n a a' v mv F w w2 := ⟨h.arr.grow hg, h.same, h.keep.grow hg⟩
theorem Hp.swp {q N n : Nat} {a a' : Nat → It} {v mv : Value} {F : Nat → Prop} {w w' w2 : World} (h : Hp q N n a a' v mv F w w') {i j : Nat} (hi : i < n) (hj : j < n) (h2 : Arr q N (swp a' i j) v mv F w2) (hk : Keep F w' w2) : Hp q N n a (Go.Proofs.YtfkcpaahdlkcdaaGreat.swp a' i j) v mv F w w2 :=
 ⟨h2, h.same.trans (Same.swp a' hi hj), h.keep.trans hk (fun i hi => .inl hi)⟩
theorem up_calls (q N n : Nat) (a : Nat → It) (v mv : Value) (F : Nat → Prop) (w : World) (h : Arr q N a v mv F w) (hnN : n ≤ N) (j : Nat) (hj : j < n) (hU : UpI a n j) :
    Calls Tryz.prog 215 #[.iface 231 (.pointer (some ⟨q, 0, none⟩)), .int .i64 j] w fun e w' => e = .returned (.tuple #[]) ∧ ∃ a', Hp q N n a a' v mv F w w' ∧ HeapN a' n := by
 obtain ⟨A, c, rfl⟩ := h.slice
 have hfew := h.few
 have HH : Hid (Hp q N n a a (.slice A N c) mv F w w) := ⟨h, Same.refl _ _, Keep.refl _ _⟩
 have HU := LH hU
 clear h hU
 go_enter Tryz.func215, Tryz.ntmps215
 go_wp2
 go_loopw [1] (fun v wr => ∃ j a', j < n ∧ v = .int .i64 (j : Nat) ∧ Hid (Hp q N n a a' (.slice A N c) mv F w wr) ∧ Hid (UpI a' n j)) (fun v _ => (intOf v).toNat)
 case atStart => exact ⟨j, a, hj, rfl, HH, HU⟩
 case round =>
  clear HH HU hj j
  obtain ⟨j, a', hj, rfl, HH, HU⟩ := hrel
  rcases Nat.eq_zero_or_pos j with h0 | h0
  ·subst h0
   go_wp2
   go_end0
   exact ⟨rfl, a', HH.out, HU.out.zero⟩
  ·obtain ⟨m, rfl⟩ : ∃ m, j = m + 1 := ⟨j - 1, by omega⟩
   have hw : IntKind.i64.wrap (((m + 1 : Nat) : Int) - 1) = (m : Int) := by rw [show (((m + 1 : Nat) : Int) - 1) = (m : Int) from by omega]; exact IntWalk.i64_in _ (by omega)
   have hm := meth_less q A N c wr HH.out.arr.cell0
   have hne : ¬ ((m : Int) / 2 = (m : Int) + 1) := by omega
   have hne2 : ((m : Int) / 2 == (m : Int) + 1) = false := beq_eq_false_iff_ne.2 hne
   go_wp2_with fail
   have hpar : (m + 1 - 1) / 2 = m / 2 := by simp
   refine (less_calls q N a' _ mv F wr HH.out.arr (m + 1) (m / 2) (by omega) (by omega)).mono ?_
   rintro e w2 ⟨rfl, hg⟩
   have HH2 := LH (HH.out.grow hg)
   have hm2 := meth_swap q A N c w2 HH2.out.arr.cell0
   clear hg HH hm
   cases hl : (a' (m + 1)).less (a' (m / 2)) with
   | false =>
    have hstop : Hid (HeapN a' n) := HU.out.stop (by rw [hpar]; exact It.le_of_not hl)
    clear hl
    go_wp2
    go_end0
    exact ⟨rfl, a', HH2.out, hstop.out⟩
   | true =>
    have hU' := HU.out.step (by omega) hj (by rw [hpar]; exact It.le_of_less hl)
    rw [hpar] at hU'
    have HU' := LH hU'
    clear hl hU' HU
    go_wp2_with fail
    refine (swap_calls q N a' _ mv F w2 HH2.out.arr (m / 2) (m + 1) (by omega) (by omega) (by omega)).mono ?_
    rintro e w3 ⟨rfl, h3, hk⟩
    have HH3 := LH (HH2.out.swp (i := m / 2) (j := m + 1) (by omega) hj h3 hk)
    clear h3 hk
    go_wp2
    go_roundw
    case rel => exact ⟨m / 2, _, by omega, rfl, HH3, HU'⟩
    case measure => simp [intOf]; omega
theorem down_calls (q N n : Nat) (a : Nat → It) (v mv : Value) (F : Nat → Prop) (w : World) (h : Arr q N a v mv F w) (hnN : n ≤ N) (i0 : Nat) (hi0 : i0 < n) (hD : DnI a n i0 i0) :
    Calls Tryz.prog 214 #[.iface 231 (.pointer (some ⟨q, 0, none⟩)), .int .i64 i0, .int .i64 n] w fun e w' => ∃ x a', e = .returned (.bool (decide (i0 < x))) ∧ Hp q N n a a' v mv F w w' ∧ (i0 < x → HeapN a' n) ∧ (¬ i0 < x → UpI a' n i0) := by
 obtain ⟨A, c, rfl⟩ := h.slice
 have hfew := h.few
 have HH : Hid (Hp q N n a a (.slice A N c) mv F w w) := ⟨h, Same.refl _ _, Keep.refl _ _⟩
 have HD := LH hD
 clear h hD
 go_enter Tryz.func214, Tryz.ntmps214
 go_wp2
 go_loopw [7] (fun v wr => ∃ i a', i < n ∧ v = .int .i64 (i : Nat) ∧ Hid (Hp q N n a a' (.slice A N c) mv F w wr) ∧ Hid (DnI a' n i0 i)) (fun v _ => n - (intOf v).toNat)
 case atStart => exact ⟨i0, a, hi0, rfl, HH, HD⟩
 case round =>
  clear HH HD
  obtain ⟨i, a', hi, rfl, HH, HD⟩ := hrel
  have hge := HD.out.ge
  have w1 : IntKind.i64.wrap (2 * (i : Int)) = 2 * (i : Int) := IntWalk.i64_in _ (by omega)
  have w2 : IntKind.i64.wrap (2 * (i : Int) + 1) = 2 * (i : Int) + 1 := IntWalk.i64_in _ (by omega)
  have w3 : IntKind.i64.wrap (2 * (i : Int) + 1 + 1) = 2 * (i : Int) + 1 + 1 := IntWalk.i64_in _ (by omega)
  have w4 : ¬ (2 * (i : Int) + 1 < 0) := by omega
  by_cases hc1 : (n : Int) ≤ 2 * (i : Int) + 1
  ·have hx : ∀ k, 0 < k → k < n → (k - 1) / 2 = i → (a' i).le (a' k) := fun k h0 hk hp => by omega
   have hfin : Hid ((i ≠ i0 → HeapN a' n) ∧ (i = i0 → UpI a' n i0)) := ⟨fun e => HD.out.done hx e, fun e => by subst e; exact HD.out.same hx⟩
   clear hx
   go_wp2
   go_ret
   exact ⟨i, rfl, a', HH.out, fun e => hfin.out.1 (by omega), fun e => hfin.out.2 (by omega)⟩
  ·by_cases hc2 : 2 * (i : Int) + 1 + 1 < n
   ·have hm := meth_less q A N c wr HH.out.arr.cell0
    go_wp2_with fail
    refine (less_calls q N a' _ mv F wr HH.out.arr (2 * i + 1 + 1) (2 * i + 1) (by omega) (by omega)).mono ?_
    rintro e wq ⟨rfl, hg⟩
    have HH4 := LH (HH.out.grow hg)
    have hm4 := meth_less q A N c wq HH4.out.arr.cell0
    clear hg HH hm
    cases hb : (a' (2 * i + 1 + 1)).less (a' (2 * i + 1)) with
    | false =>
     have hmin : Hid (∀ k, 0 < k → k < n → (k - 1) / 2 = i → (a' (2 * i + 1)).le (a' k)) := fun k h0 hk hp => by
      rcases (show k = 2 * i + 1 ∨ k = 2 * i + 1 + 1 from by omega) with e | e
      ·rw [e]; exact It.le_refl _
      ·rw [e]; exact It.le_of_not hb
     clear hb
     go_wp2_with fail
     refine (less_calls q N a' _ mv F wq HH4.out.arr (2 * i + 1) i (by omega) (by omega)).mono ?_
     rintro e w5 ⟨rfl, hg5⟩
     have HH5 := LH (HH4.out.grow hg5)
     have hm5 := meth_swap q A N c w5 HH5.out.arr.cell0
     clear hg5 HH4
     cases hl : (a' (2 * i + 1)).less (a' i) with
     | false =>
      have hx : ∀ k, 0 < k → k < n → (k - 1) / 2 = i → (a' i).le (a' k) := fun k h0 hk hp => It.le_trans (It.le_of_not hl) (hmin.out k h0 hk hp)
      have hfin : Hid ((i ≠ i0 → HeapN a' n) ∧ (i = i0 → UpI a' n i0)) := ⟨fun e => HD.out.done hx e, fun e => by subst e; exact HD.out.same hx⟩
      clear hl hx hm5
      go_wp2
      go_ret
      exact ⟨i, a', rfl, HH5.out, fun e => hfin.out.1 (by omega), fun e => hfin.out.2 (by omega)⟩
     | true =>
      have HD' := LH (HD.out.step (j := (2 * i + 1)) (by omega) (by omega) (by omega) (It.le_of_less hl) hmin.out)
      clear hl HD hmin
      go_wp2_with fail
      refine (swap_calls q N a' _ mv F w5 HH5.out.arr i (2 * i + 1) (by omega) (by omega) (by omega)).mono ?_
      rintro e w6 ⟨rfl, h6, hk6⟩
      have HH6 := LH (HH5.out.swp (i := i) (j := (2 * i + 1)) (by omega) (by omega) h6 hk6)
      clear h6 hk6 HH5 hm5
      go_wp2
      go_roundw
      case rel => exact ⟨(2 * i + 1), _, by omega, by go_num, HH6, HD'⟩
      case measure => simp [intOf]; omega
    | true =>
     have hmin : Hid (∀ k, 0 < k → k < n → (k - 1) / 2 = i → (a' (2 * i + 1 + 1)).le (a' k)) := fun k h0 hk hp => by
      rcases (show k = 2 * i + 1 ∨ k = 2 * i + 1 + 1 from by omega) with e | e
      ·rw [e]; exact It.le_of_less hb
      ·rw [e]; exact It.le_refl _
     clear hb
     go_wp2_with fail
     refine (less_calls q N a' _ mv F wq HH4.out.arr (2 * i + 1 + 1) i (by omega) (by omega)).mono ?_
     rintro e w5 ⟨rfl, hg5⟩
     have HH5 := LH (HH4.out.grow hg5)
     have hm5 := meth_swap q A N c w5 HH5.out.arr.cell0
     clear hg5 HH4
     cases hl : (a' (2 * i + 1 + 1)).less (a' i) with
     | false =>
      have hx : ∀ k, 0 < k → k < n → (k - 1) / 2 = i → (a' i).le (a' k) := fun k h0 hk hp => It.le_trans (It.le_of_not hl) (hmin.out k h0 hk hp)
      have hfin : Hid ((i ≠ i0 → HeapN a' n) ∧ (i = i0 → UpI a' n i0)) := ⟨fun e => HD.out.done hx e, fun e => by subst e; exact HD.out.same hx⟩
      clear hl hx hm5
      go_wp2
      go_ret
      exact ⟨i, a', rfl, HH5.out, fun e => hfin.out.1 (by omega), fun e => hfin.out.2 (by omega)⟩
     | true =>
      have HD' := LH (HD.out.step (j := (2 * i + 1 + 1)) (by omega) (by omega) (by omega) (It.le_of_less hl) hmin.out)
      clear hl HD hmin
      go_wp2_with fail
      refine (swap_calls q N a' _ mv F w5 HH5.out.arr i (2 * i + 1 + 1) (by omega) (by omega) (by omega)).mono ?_
      rintro e w6 ⟨rfl, h6, hk6⟩
      have HH6 := LH (HH5.out.swp (i := i) (j := (2 * i + 1 + 1)) (by omega) (by omega) h6 hk6)
      clear h6 hk6 HH5 hm5
      go_wp2
      go_roundw
      case rel => exact ⟨(2 * i + 1 + 1), _, by omega, by go_num, HH6, HD'⟩
      case measure => simp [intOf]; omega
   ·have hm := meth_less q A N c wr HH.out.arr.cell0
    have hmin : Hid (∀ k, 0 < k → k < n → (k - 1) / 2 = i → (a' (2 * i + 1)).le (a' k)) := fun k h0 hk hp => by
     rw [show k = 2 * i + 1 from by omega]; exact It.le_refl _
    go_wp2_with fail
    refine (less_calls q N a' _ mv F wr HH.out.arr (2 * i + 1) i (by omega) (by omega)).mono ?_
    rintro e w5 ⟨rfl, hg5⟩
    have HH5 := LH (HH.out.grow hg5)
    have hm5 := meth_swap q A N c w5 HH5.out.arr.cell0
    clear hg5 HH
    cases hl : (a' (2 * i + 1)).less (a' i) with
    | false =>
     have hx : ∀ k, 0 < k → k < n → (k - 1) / 2 = i → (a' i).le (a' k) := fun k h0 hk hp => It.le_trans (It.le_of_not hl) (hmin.out k h0 hk hp)
     have hfin : Hid ((i ≠ i0 → HeapN a' n) ∧ (i = i0 → UpI a' n i0)) := ⟨fun e => HD.out.done hx e, fun e => by subst e; exact HD.out.same hx⟩
     clear hl hx hm5
     go_wp2
     go_ret
     exact ⟨i, a', rfl, HH5.out, fun e => hfin.out.1 (by omega), fun e => hfin.out.2 (by omega)⟩
    | true =>
     have HD' := LH (HD.out.step (j := (2 * i + 1)) (by omega) (by omega) (by omega) (It.le_of_less hl) hmin.out)
     clear hl HD hmin
     go_wp2_with fail
     refine (swap_calls q N a' _ mv F w5 HH5.out.arr i (2 * i + 1) (by omega) (by omega) (by omega)).mono ?_
     rintro e w6 ⟨rfl, h6, hk6⟩
     have HH6 := LH (HH5.out.swp (i := i) (j := (2 * i + 1)) (by omega) (by omega) h6 hk6)
     clear h6 hk6 HH5 hm5
     go_wp2
     go_roundw
     case rel => exact ⟨(2 * i + 1), _, by omega, by go_num, HH6, HD'⟩
     case measure => simp [intOf]; omega
theorem HeapN.change {a b : Nat → It} {n i : Nat} (h : HeapN a n) (hb : ∀ k, k ≠ i → b k = a k) : DnI b n i i := by
 refine ⟨fun k h0 hk e1 e2 => ?_, fun k h0 hk e1 e2 => ?_, fun e => absurd rfl e, Nat.le_refl _⟩
 ·rw [hb k e1, hb _ e2]; exact h k h0 hk
 ·rw [hb k (by omega), hb _ (by omega)]
  have h1 := h k h0 hk
  rw [e1] at h1
  exact It.le_trans (h i e2 (by omega)) h1
theorem HeapN.swapped {a : Nat → It} {m i : Nat} (h : HeapN a (m + 1)) : DnI (swp a i m) m i i := by
 refine ⟨fun k h0 hk e1 e2 => ?_, fun k h0 hk e1 e2 => ?_, fun e => absurd rfl e, Nat.le_refl _⟩
 ·rw [show swp a i m k = a k from by unfold swp; rw [if_neg e1, if_neg (by omega)], show swp a i m ((k - 1) / 2) = a ((k - 1) / 2) from by unfold swp; rw [if_neg e2, if_neg (by omega)]]
  exact h k h0 (by omega)
 ·rw [show swp a i m k = a k from by unfold swp; rw [if_neg (by omega), if_neg (by omega)], show swp a i m ((i - 1) / 2) = a ((i - 1) / 2) from by unfold swp; rw [if_neg (by omega), if_neg (by omega)]]
  have h1 := h k h0 (by omega)
  rw [e1] at h1
  exact It.le_trans (h i e2 (by omega)) h1
theorem HeapN.pushed {a b : Nat → It} {n : Nat} (h : HeapN a n) (hb : ∀ k, k ≠ n → b k = a k) : UpI b (n + 1) n := by
 refine ⟨fun k h0 hk e1 => ?_, fun k h0 hk e1 e2 => by omega⟩
 rw [hb k e1, hb _ (by omega)]
 exact h k h0 (by omega)
theorem fix_calls (q n : Nat) (a : Nat → It) (v mv : Value) (F : Nat → Prop) (w : World) (h : Arr q n a v mv F w) (i : Nat) (hi : i < n) (hD : DnI a n i i) :
    Calls Tryz.prog 151 #[.iface 231 (.pointer (some ⟨q, 0, none⟩)), .int .i64 i] w fun e w' => e = .returned (.tuple #[]) ∧ ∃ a', Hp q n n a a' v mv F w w' ∧ HeapN a' n := by
 obtain ⟨A, c, rfl⟩ := h.slice
 have hm := meth_len q A n c w h.cell0
 have H := LH h
 have HD := LH hD
 clear h hD
 go_enter Tryz.func151, Tryz.ntmps151
 go_wp2_with fail
 refine (len_calls2 A n c w).mono ?_
 rintro e w' ⟨rfl, rfl⟩
 go_wp2_with fail
 refine (down_calls q n n a _ mv F w H.out (Nat.le_refl _) i hi HD.out).mono ?_
 rintro e w2 ⟨x, a2, rfl, hp, h1, h2⟩
 have HP := LH hp
 clear hp hm
 by_cases hx : i < x
 ·have h1' := LH (h1 hx)
  clear h1 h2
  go_wp2
  go_end0
  exact ⟨rfl, a2, HP.out, h1'.out⟩
 ·have h2' := LH (h2 hx)
  clear h1 h2
  go_wp2_with fail
  refine (up_calls q n n a2 _ mv F w2 HP.out.arr (Nat.le_refl _) i hi h2'.out).mono ?_
  rintro e w3 ⟨rfl, a3, hp3, h3⟩
  have HP3 : Hid (Hp q n n a a3 (.slice A n c) mv F w w3) := ⟨hp3.arr, HP.out.same.trans hp3.same, HP.out.keep.trans hp3.keep (fun i hi => .inl hi)⟩
  clear hp3
  go_wp2
  go_end0
  exact ⟨rfl, a3, HP3.out, h3⟩
theorem heappush_calls (q n : Nat) (a : Nat → It) (v mv : Value) (F : Nat → Prop) (w : World) (h : Arr q n a v mv F w) (hH : HeapN a n) (x : It) (z : Int) (hx : w.heap[x.b]? = some (.cells #[.int .i64 x.k, .int .i64 x.t, .int .i64 z] 229 (0, 0))) (hF : ¬ F x.b) (hn : n < 1000) :
    Calls Tryz.prog 152 #[.iface 231 (.pointer (some ⟨q, 0, none⟩)), .iface 227 (.pointer (some ⟨x.b, 0, none⟩))] w fun e w' => e = .returned (.tuple #[]) ∧ ∃ a' v' F', Arr q (n + 1) a' v' mv F' w' ∧ HeapN a' (n + 1) ∧ Same (fun i => if i = n then x else a i) a' (n + 1) ∧ Keep (fun k => F k ∨ k = x.b) w w' ∧ ∀ k, F' k → F k ∨ k = x.b ∨ w.heap.size ≤ k := by
 have hm := meth_push q w
 have H := LH h
 have HH := LH hH
 have HX := LH hx
 clear h hH hx
 go_enter Tryz.func152, Tryz.ntmps152
 go_wp2_with fail
 refine (hpush_calls q n a v mv F w H.out x z HX.out hF hn).mono ?_
 rintro e w2 ⟨rfl, v2, F2, h2, hk2, hF2⟩
 obtain ⟨A, c, rfl⟩ := h2.slice
 have hm2 := meth_len q A (n + 1) c w2 h2.cell0
 have H2 := LH h2
 have HK2 := LH hk2
 have HF2 := LH hF2
 have hw : IntKind.i64.wrap (((n + 1 : Nat) : Int) - 1) = (n : Int) := by rw [show (((n + 1 : Nat) : Int) - 1) = (n : Int) from by omega]; exact IntWalk.i64_in _ (by omega)
 clear h2 hk2 hF2 hm
 go_wp2_with fail
 refine (len_calls2 A (n + 1) c w2).mono ?_
 rintro e w3 ⟨rfl, rfl⟩
 go_wp2_with fail
 refine (up_calls q (n + 1) (n + 1) _ _ mv F2 w2 H2.out (Nat.le_refl _) n (by omega) (HH.out.pushed (fun k hk => by simp [hk]))).mono ?_
 rintro e w3 ⟨rfl, a3, hp3, h3⟩
 have HP3 := LH hp3
 clear hp3
 go_wp2
 go_end0
 have hsz := HK2.out.size
 exact ⟨rfl, a3, _, F2, HP3.out.arr, h3, HP3.out.same, HK2.out.trans HP3.out.keep (fun k hk => (HF2.out k hk).elim (fun h => .inl (.inl h)) (fun h => h.elim (fun h => .inl (.inr h)) .inr)), HF2.out⟩
theorem remove_calls (q m : Nat) (a : Nat → It) (v mv : Value) (F : Nat → Prop) (w : World) (h : Arr q (m + 1) a v mv F w) (hH : HeapN a (m + 1)) (i : Nat) (hi : i ≤ m) :
    Calls Tryz.prog 212 #[.iface 231 (.pointer (some ⟨q, 0, none⟩)), .int .i64 i] w fun e w' => ∃ x a' v', e = .returned x ∧ Arr q m a' v' mv F w' ∧ HeapN a' m ∧ Same (swp a i m) a' m ∧ Keep F w w' := by
 obtain ⟨A, c, rfl⟩ := h.slice
 have hfew := h.few
 have hm := meth_len q A (m + 1) c w h.cell0
 have hm2 := meth_swap q A (m + 1) c w h.cell0
 have H := LH h
 have HH := LH hH
 have hw : IntKind.i64.wrap (((m + 1 : Nat) : Int) - 1) = (m : Int) := by rw [show (((m + 1 : Nat) : Int) - 1) = (m : Int) from by omega]; exact IntWalk.i64_in _ (by omega)
 clear h hH
 by_cases him : i = m
 ·subst him
  have hp := meth_pop q w
  have hb : ((i : Int) != (i : Int)) = false := by simp
  go_enter Tryz.func212, Tryz.ntmps212
  go_wp2_with fail
  refine (len_calls2 A (i + 1) c w).mono ?_
  rintro e w3 ⟨rfl, rfl⟩
  go_wp2_with fail
  refine (pop_calls q i a _ mv F w H.out).mono ?_
  rintro e w2 ⟨x, v', rfl, h2, hk⟩
  have H2 := LH h2
  clear h2
  go_wp2
  go_ret
  have e : swp a i i = a := by funext k; by_cases h : k = i <;> simp [swp, h]
  exact ⟨_, a, v', rfl, H2.out, fun k h0 hk => HH.out k h0 (by omega), by rw [e]; exact Same.refl _ _, hk⟩
 ·have hne : ((m : Int) != (i : Int)) = true := by simp; omega
  go_enter Tryz.func212, Tryz.ntmps212
  go_wp2_with fail
  refine (len_calls2 A (m + 1) c w).mono ?_
  rintro e w3 ⟨rfl, rfl⟩
  go_wp2_with fail
  refine (swap_calls q (m + 1) a _ mv F w H.out i m (by omega) (by omega) him).mono ?_
  rintro e w2 ⟨rfl, h2, hk2⟩
  have H2 := LH h2
  have HK2 := LH hk2
  clear h2 hk2 hm hm2
  go_wp2_with fail
  refine (down_calls q (m + 1) m (swp a i m) _ mv F w2 H2.out (by omega) i (by omega) HH.out.swapped).mono ?_
  rintro e w3 ⟨x, a3, rfl, hp, h1, h2⟩
  have HP := LH hp
  have HK3 := LH (HK2.out.trans hp.keep (fun i hi => .inl hi))
  clear hp
  by_cases hx : i < x
  ·have h1' := LH (h1 hx)
   have hp4 := meth_pop q w3
   clear h1 h2
   go_wp2_with fail
   refine (pop_calls q m a3 _ mv F w3 HP.out.arr).mono ?_
   rintro e w4 ⟨x4, v4, rfl, h4, hk4⟩
   have H4 := LH h4
   clear h4
   go_wp2
   go_ret
   exact ⟨_, a3, v4, rfl, H4.out, h1'.out, HP.out.same, HK3.out.trans hk4 (fun i hi => .inl hi)⟩
  ·have h2' := LH (h2 hx)
   clear h1 h2
   go_wp2_with fail
   refine (up_calls q (m + 1) m a3 _ mv F w3 HP.out.arr (by omega) i (by omega) h2'.out).mono ?_
   rintro e w4 ⟨rfl, a4, hp4, h4⟩
   have HP4 := LH hp4
   have HK4 := LH (HK3.out.trans hp4.keep (fun i hi => .inl hi))
   have HS4 := LH (HP.out.same.trans hp4.same)
   have h4' := LH h4
   have hp5 := meth_pop q w4
   clear hp4 h4
   go_wp2_with fail
   refine (pop_calls q m a4 _ mv F w4 HP4.out.arr).mono ?_
   rintro e w5 ⟨x5, v5, rfl, h5, hk5⟩
   have H5 := LH h5
   clear h5
   go_wp2
   go_ret
   exact ⟨_, a4, v5, rfl, H5.out, h4'.out, HS4.out, HK4.out.trans hk5 (fun i hi => .inl hi)⟩
def pR : Value → Option (DataW Unit × List MemPlace)
 | .pointer none => some (.nil, [])
 | .pointer (some ⟨b, 0, none⟩) => some (.lit (.int .u64 b), [])
 | _ => none
theorem pR_nil {v : Value} {ps : List MemPlace} (h : pR v = some (.nil, ps)) : v = .pointer none := by
 unfold pR at h
 split at h <;> simp_all
theorem pR_some {v : Value} {b : Nat} {ps : List MemPlace} (h : pR v = some (.lit (.int .u64 b), ps)) : v = .pointer (some ⟨b, 0, none⟩) := by
 unfold pR at h
 split at h <;> simp_all
 omega
theorem u_int : Tryz.prog.underlying 3 = some (.int .i64) := Tryz.underlying3
theorem u_map : Tryz.prog.underlying 208 = some (.map 3 227) := Tryz.underlying208
theorem keyed_int : Maps.Keyed Tryz.prog 3 := Maps.int_keyed u_int
abbrev okI (k : Int) : Prop := (Lit.int .i64 k).wf = true
theorem key_int {k : Int} (h : okI k) : keyOf Tryz.prog 3 (.int .i64 k) = some (.int .i64 k) := Maps.keyOf_int_mk u_int h
theorem zero_ip (w : World) : (zeroValue 227).run Tryz.prog w = .ok (.pointer none) w := by
 go_simp
theorem isKey (k : Int) : WideAt.IsKeyLit (.int .i64 k) := trivial
def MapIs (mb n : Nat) (a : Nat → It) (w : World) : Prop :=
 ∃ D : DataW Unit, w.ownsMap Tryz.prog 3 pR mb n D ∧ Maps.size D = n ∧ ∀ k, okI k → (∃ i, i < n ∧ (a i).k = k ∧ ∀ z, D.atKey (.int .i64 k) z = .lit (.int .u64 (a i).b)) ∨ ((∀ i, i < n → (a i).k ≠ k) ∧ ∀ z, D.atKey (.int .i64 k) z = z)
theorem tight {w : World} {mb n : Nat} {D : DataW Unit} (h : w.ownsMap Tryz.prog 3 pR mb n D) : w.ownsMap Tryz.prog 3 pR mb (Maps.size D) D := by
 obtain ⟨es, clock, hb, F, hs, rfl⟩ := h
 refine ⟨es, clock, hb, F, ?_, rfl⟩
 rw [Maps.size_eq, length_sorted]
 simp
theorem ownsMap_keep {S : Nat → Prop} {w w' : World} {mb n : Nat} {D : DataW Unit} (h : w.ownsMap Tryz.prog 3 pR mb n D) (hk : Keep S w w') (hS : ¬ S mb) : w'.ownsMap Tryz.prog 3 pR mb n D := by
 obtain ⟨es, clock, hb, r⟩ := h
 exact ⟨es, clock, (hk.block mb (gE hb).1 hS).trans hb, r⟩
theorem MapIs.keep {S : Nat → Prop} {w w' : World} {mb n : Nat} {a : Nat → It} (h : MapIs mb n a w) (hk : Keep S w w') (hS : ¬ S mb) : MapIs mb n a w' := by
 obtain ⟨D, h1, h2⟩ := h
 exact ⟨D, ownsMap_keep h1 hk hS, h2⟩
theorem MapIs.same {w : World} {mb n : Nat} {a b : Nat → It} (h : MapIs mb n a w) (hs : Same a b n) : MapIs mb n b w := by
 obtain ⟨D, h1, h2, h3⟩ := h
 refine ⟨D, h1, h2, fun k hk => ?_⟩
 rcases h3 k hk with ⟨i, hi, e, hz⟩ | ⟨hno, hz⟩
 ·obtain ⟨j, hj, e2⟩ := hs.of i hi
  exact .inl ⟨j, hj, by rw [← e2]; exact e, fun z => by rw [← e2]; exact hz z⟩
 ·refine .inr ⟨fun i hi => ?_, hz⟩
  obtain ⟨j, hj, e2⟩ := hs.to i hi
  rw [e2]
  exact hno j hj
theorem MapIs.look {w : World} {mb n : Nat} {a : Nat → It} (h : MapIs mb n a w) {k : Int} (hk : okI k) :
    (∃ i, i < n ∧ (a i).k = k ∧ (Instr.lookup 208 (.map (some mb)) (.int .i64 k) false).run Tryz.prog w = .ok (.pointer (some ⟨(a i).b, 0, none⟩)) w) ∨
    ((∀ i, i < n → (a i).k ≠ k) ∧ (Instr.lookup 208 (.map (some mb)) (.int .i64 k) false).run Tryz.prog w = .ok (.pointer none) w) := by
 obtain ⟨D, h1, h2, h3⟩ := h
 obtain ⟨v, ps, hr, hv⟩ := h1.lookup keyed_int u_map (zero_ip w) (zd := .nil) (zp := []) rfl (key_int hk)
 rcases h3 k hk with ⟨i, hi, e, hz⟩ | ⟨hno, hz⟩
 ·rw [hz] at hv
  rw [pR_some hv] at hr
  exact .inl ⟨i, hi, e, hr⟩
 ·rw [hz] at hv
  rw [pR_nil hv] at hr
  exact .inr ⟨hno, hr⟩
structure QueIs (q n : Nat) (a : Nat → It) (v : Value) (mb : Nat) (F : Nat → Prop) (w : World) : Prop where
 arr : Arr q n a v (.map (some mb)) F w
 heap : HeapN a n
 map : MapIs mb n a w
 nmb : ¬ F mb
 okk : ∀ i, i < n → okI (a i).k
 kinj : ∀ i j, i < n → j < n → (a i).k = (a j).k → i = j
abbrev KT : Type := Int × Int
def ND (l : List KT) : Prop := l.Pairwise (fun x y => x.1 ≠ y.1)
structure Says (n : Nat) (a : Nat → It) (l : List KT) : Prop where
 len : l.length = n
 nd : ND l
 mem : ∀ x, x ∈ l ↔ ∃ i, i < n ∧ x = ((a i).k, (a i).t)
def Que (q : Nat) (l : List KT) (F : Nat → Prop) (w : World) : Prop := ∃ n a v mb F', QueIs q n a v mb F' w ∧ Says n a l ∧ ∀ k, F' k ∨ k = mb → F k
theorem QueIs.keep {q n : Nat} {a : Nat → It} {v : Value} {mb : Nat} {F S : Nat → Prop} {w w' : World} (h : QueIs q n a v mb F w) (hk : Keep S w w') (hd : ∀ k, F k ∨ k = mb → ¬ S k) : QueIs q n a v mb F w' :=
 ⟨h.arr.keep hk (fun k hF => hd k (.inl hF)), h.heap, h.map.keep hk (hd mb (.inr rfl)), h.nmb, h.okk, h.kinj⟩
theorem Que.keep {q : Nat} {l : List KT} {F S : Nat → Prop} {w w' : World} (h : Que q l F w) (hk : Keep S w w') (hd : ∀ k, F k → ¬ S k) : Que q l F w' := by
 obtain ⟨n, a, v, mb, F', h1, h2, h3⟩ := h
 exact ⟨n, a, v, mb, F', h1.keep hk (fun k hF => hd k (h3 k hF)), h2, h3⟩
theorem Que.grow {q : Nat} {l : List KT} {F : Nat → Prop} {w w' : World} (h : Que q l F w) (hk : Grow w w') : Que q l F w' := h.keep hk (fun _ _ h => h)
theorem Que.few {q : Nat} {l : List KT} {F : Nat → Prop} {w : World} (h : Que q l F w) : l.length ≤ 1000 := by
 obtain ⟨n, a, v, mb, F', h1, h2, h3⟩ := h
 rw [h2.len]
 exact h1.arr.few
theorem tnew_calls (w : World) : Calls Tryz.prog 62 #[] w fun e w' => ∃ q F, e = .returned (.pointer (some ⟨q, 0, none⟩)) ∧ Que q [] F w' ∧ Grow w w' ∧ (∀ k, F k → w.heap.size ≤ k ∧ k < w'.heap.size) := by
 have hm := @run_makeMap Tryz.prog
 go_enter Tryz.func62, Tryz.ntmps62
 go_wp2
 go_ret
 have hcell := heap_alloc_new (w.alloc (.map #[] 0)) (.cells #[.slice none 0 0, .map (some w.heap.size)] 212)
 have hsz : (w.alloc (.map #[] 0)).heap.size = w.heap.size + 1 := by simp
 rw [hsz] at hcell
 refine ⟨w.heap.size + 1, fun k => k = w.heap.size + 1 ∨ k = w.heap.size, rfl, ⟨0, fun _ => ⟨0, 0, 0⟩, .slice none 0 0, w.heap.size, fun k => k = w.heap.size + 1, ⟨⟨hcell, World.ownsRow_nil _ _ _ _, fun i hi => by omega, fun i j hi => by omega, by omega, rfl, by simp [Value.ownBlock], fun i hi => by omega, fun k hk => by rw [hk]; simp⟩, fun k h0 hk => by omega, ?_, by omega, fun i hi => by omega, fun i j hi => by omega⟩, ⟨rfl, List.Pairwise.nil, fun x => ⟨fun h => (by cases h), fun ⟨i, hi, _⟩ => (by omega)⟩⟩, fun k h => h⟩, ?_, ?_⟩
 ·exact ⟨.map [], (World.ownsMap_made w _ _ _).alloc _, rfl, fun k hk => .inr ⟨fun i hi => by omega, fun z => rfl⟩⟩
 ·exact ((Keep.refl _ _).alloc _).alloc _
 ·intro k hk
  rcases hk with h | h <;> rw [h] <;> simp <;> omega
theorem tlen_is {q n : Nat} {a : Nat → It} {v mv : Value} {F : Nat → Prop} {w : World} (h : Arr q n a v mv F w) : Calls Tryz.prog 84 #[.pointer (some ⟨q, 0, none⟩)] w fun e w' => e = .returned (.int .i64 n) ∧ w = w' := by
 obtain ⟨A, c, rfl⟩ := h.slice
 have hc := h.cell0
 clear h
 go_enter Tryz.func84, Tryz.ntmps84
 go_wp2
 go_ret
 exact ⟨rfl, rfl⟩
theorem tlen_calls {q : Nat} {l : List KT} {F : Nat → Prop} {w : World} (h : Que q l F w) : Calls Tryz.prog 84 #[.pointer (some ⟨q, 0, none⟩)] w fun e w' => e = .returned (.int .i64 l.length) ∧ w = w' := by
 obtain ⟨n, a, v, mb, F', h1, h2, h3⟩ := h
 rw [h2.len]
 exact tlen_is h1.arr
def delL (l : List KT) (key : Int) : List KT := l.filter (fun x => decide (x.1 ≠ key))
def hasL (l : List KT) (key : Int) : Bool := l.any (fun x => decide (x.1 = key))
def atL (l : List KT) (key : Int) : Int := ((l.find? (fun x => decide (x.1 = key))).map (·.2)).getD 0
def setL (l : List KT) (key at_ : Int) : List KT := delL l key ++ [(key, at_)]
theorem mem_delL {l : List KT} {key : Int} {x : KT} : x ∈ delL l key ↔ x ∈ l ∧ x.1 ≠ key := by simp [delL]
theorem mem_setL {l : List KT} {key at_ : Int} {x : KT} : x ∈ setL l key at_ ↔ (x ∈ l ∧ x.1 ≠ key) ∨ x = (key, at_) := by simp [setL, mem_delL]
theorem ND.del {l : List KT} (h : ND l) (key : Int) : ND (delL l key) := h.filter _
theorem ND.set {l : List KT} (h : ND l) (key at_ : Int) : ND (setL l key at_) := by
 unfold setL ND
 rw [List.pairwise_append]
 refine ⟨h.del key, by simp, fun x hx y hy => ?_⟩
 have : y = (key, at_) := by simpa using hy
 subst this
 exact (mem_delL.1 hx).2
theorem delL_absent {l : List KT} {key : Int} (h : ∀ x ∈ l, x.1 ≠ key) : delL l key = l := by
 unfold delL
 rw [List.filter_eq_self]
 intro x hx
 simpa using h x hx
theorem delL_length : ∀ {l : List KT} {key t : Int}, ND l → (key, t) ∈ l → (delL l key).length + 1 = l.length
 | [], _, _, _, h => by cases h
 | y :: r, key, t, hn, h => by
  obtain ⟨h1, h2⟩ := List.pairwise_cons.1 hn
  rcases List.mem_cons.1 h with e | e
  ·subst e
   have : delL r key = r := delL_absent (fun x hx => (h1 x hx).symm)
   have e2 : delL ((key, t) :: r) key = delL r key := by simp [delL]
   rw [e2, this]
   rfl
  ·have hne : y.1 ≠ key := h1 _ e
   have ih := delL_length h2 e
   have e2 : delL (y :: r) key = y :: delL r key := by simp [delL, hne]
   rw [e2, List.length_cons, List.length_cons]
   omega
theorem hasL_iff {l : List KT} {key : Int} : hasL l key = true ↔ ∃ t, (key, t) ∈ l := by
 simp only [hasL, List.any_eq_true, decide_eq_true_eq]
 constructor
 ·rintro ⟨x, hx, rfl⟩
  exact ⟨x.2, hx⟩
 ·rintro ⟨t, h⟩
  exact ⟨_, h, rfl⟩
theorem hasL_no {l : List KT} {key : Int} (h : ∀ x ∈ l, x.1 ≠ key) : hasL l key = false := by
 cases hb : hasL l key with
 | false => rfl
 | true =>
  obtain ⟨t, ht⟩ := hasL_iff.1 hb
  exact absurd rfl (h _ ht)
theorem atL_no {l : List KT} {key : Int} (h : ∀ x ∈ l, x.1 ≠ key) : atL l key = 0 := by
 have : l.find? (fun x => decide (x.1 = key)) = none := List.find?_eq_none.2 (fun x hx => by simpa using h x hx)
 simp [atL, this]
theorem atL_yes : ∀ {l : List KT} {key t : Int}, ND l → (key, t) ∈ l → atL l key = t
 | [], _, _, _, h => by cases h
 | y :: r, key, t, hn, h => by
  obtain ⟨h1, h2⟩ := List.pairwise_cons.1 hn
  rcases List.mem_cons.1 h with e | e
  ·subst e; simp [atL]
  ·have hne : y.1 ≠ key := h1 _ e
   have ih := atL_yes h2 e
   simpa [atL, hne] using ih
theorem setL_length {l : List KT} {key t : Int} : (setL l key t).length = (delL l key).length + 1 := by simp [setL]
theorem Says.mk' {n : Nat} {a : Nat → It} {l : List KT} (h : Says n a l) {i : Nat} (hi : i < n) : ((a i).k, (a i).t) ∈ l := (h.mem _).2 ⟨i, hi, rfl⟩
theorem Says.none {n : Nat} {a : Nat → It} {l : List KT} (h : Says n a l) {key : Int} (hno : ∀ i, i < n → (a i).k ≠ key) : ∀ x ∈ l, x.1 ≠ key := fun x hx => by
 obtain ⟨i, hi, rfl⟩ := (h.mem x).1 hx
 exact hno i hi
theorem Says.same {n : Nat} {a b : Nat → It} {l : List KT} (h : Says n a l) (hs : Same a b n) : Says n b l := by
 refine ⟨h.len, h.nd, fun x => ⟨fun hx => ?_, fun ⟨i, hi, e⟩ => ?_⟩⟩
 ·obtain ⟨i, hi, rfl⟩ := (h.mem x).1 hx
  obtain ⟨j, hj, e⟩ := hs.of i hi
  exact ⟨j, hj, by rw [← e]⟩
 ·obtain ⟨j, hj, e2⟩ := hs.to i hi
  rw [e, e2]
  exact h.mk' hj
theorem tnext_no {q : Nat} {F : Nat → Prop} {w : World} (h : Que q [] F w) : Calls Tryz.prog 148 #[.pointer (some ⟨q, 0, none⟩)] w fun e w' => e = .returned (.tuple #[.int .i64 0, .int .i64 0, .bool false]) ∧ w = w' := by
 have H := LH h
 clear h
 go_enter Tryz.func148, Tryz.ntmps148
 go_wp2_with fail
 refine (tlen_calls H.out).mono ?_
 rintro e w' ⟨rfl, rfl⟩
 go_wp2
 go_ret3
 exact ⟨rfl, rfl⟩
theorem tnext_is {q n : Nat} {a : Nat → It} {v mv : Value} {F : Nat → Prop} {w : World} (h : Arr q n a v mv F w) (h0 : 0 < n) : Calls Tryz.prog 148 #[.pointer (some ⟨q, 0, none⟩)] w fun e w' => e = .returned (.tuple #[.int .i64 (a 0).k, .int .i64 (a 0).t, .bool true]) ∧ Grow w w' := by
 obtain ⟨r, c, rfl, hr, hnc, i0, i1, i2, _⟩ := h.get 0 h0
 have hc := h.cell0
 have H := LH h
 have hcd : w.drew.cell? ⟨q, 0, none⟩ = some (.slice (some ⟨r, 0, none⟩) n c) := by simpa using hc
 have i0' : w.drew.cell? ⟨r, 0, none⟩ = some (.pointer (some ⟨(a 0).b, 0, none⟩)) := by simpa using i0
 have i1' : w.drew.cell? ⟨(a 0).b, 0, none⟩ = some (.int .i64 (a 0).k) := by simpa using i1
 have i2' : w.drew.cell? ⟨(a 0).b, 1, none⟩ = some (.int .i64 (a 0).t) := by simpa using i2
 have h0' : (0 : Int) < n := by omega
 have hn : ((n : Int) == 0) = false := beq_eq_false_iff_ne.2 (by omega)
 clear h i0 i1 i2 hc
 go_enter Tryz.func148, Tryz.ntmps148
 go_wp2_with fail
 refine (tlen_is H.out).mono ?_
 rintro e w' ⟨rfl, rfl⟩
 go_wp2
 refine region_ord [0, 1, 2, 3, 4, 5, 6, 7, 8, 9, 10, 11, 12, 13, 14, 15, 16, 17, 18, 19, 20] [18, 19, 20] [3, 5, 8, 12, 14, 17] [] rfl (by kernel_rfl) ?_
 iterate 3
  refine ord_pure rfl rfl rfl rfl rfl (fun _ _ _ _ h => h) ?_ ?_ ?_ ?_ ?_
  rotate_left 2
  ·intro w'; go_simp; with_reducible rfl
  ·simp only [Act.put, pB, pC, pD]; rfl
 refine ord_read rfl rfl rfl rfl rfl (fun _ _ _ _ h => h) ?_ ?_ ?_ ?_ ?_
 rotate_left 2
 ·intro w' hg; have q := hg.cell hcd (fun h => h); go_simp; with_reducible rfl
 ·simp only [Act.put, pB, pC, pD]; rfl
 refine ord_pure rfl rfl rfl rfl rfl (fun _ _ _ _ h => h) ?_ ?_ ?_ ?_ ?_
 rotate_left 2
 ·intro w'; go_simp; with_reducible rfl
 ·simp only [Act.put, pB, pC, pD]; rfl
 refine ord_read rfl rfl rfl rfl rfl (fun _ _ _ _ h => h) ?_ ?_ ?_ ?_ ?_
 rotate_left 2
 ·intro w' hg; have q := hg.cell i0' (fun h => h); go_simp; with_reducible rfl
 ·simp only [Act.put, pB, pC, pD]; rfl
 iterate 2
  refine ord_pure rfl rfl rfl rfl rfl (fun _ _ _ _ h => h) ?_ ?_ ?_ ?_ ?_
  rotate_left 2
  ·intro w'; go_simp; with_reducible rfl
  ·simp only [Act.put, pB, pC, pD]; rfl
 refine ord_read rfl rfl rfl rfl rfl (fun _ _ _ _ h => h) ?_ ?_ ?_ ?_ ?_
 rotate_left 2
 ·intro w' hg; have q := hg.cell i1' (fun h => h); go_simp; with_reducible rfl
 ·simp only [Act.put, pB, pC, pD]; rfl
 iterate 3
  refine ord_pure rfl rfl rfl rfl rfl (fun _ _ _ _ h => h) ?_ ?_ ?_ ?_ ?_
  rotate_left 2
  ·intro w'; go_simp; with_reducible rfl
  ·simp only [Act.put, pB, pC, pD]; rfl
 refine ord_read rfl rfl rfl rfl rfl (fun _ _ _ _ h => h) ?_ ?_ ?_ ?_ ?_
 rotate_left 2
 ·intro w' hg; have q := hg.cell hcd (fun h => h); go_simp; with_reducible rfl
 ·simp only [Act.put, pB, pC, pD]; rfl
 refine ord_pure rfl rfl rfl rfl rfl (fun _ _ _ _ h => h) ?_ ?_ ?_ ?_ ?_
 rotate_left 2
 ·intro w'; go_simp; with_reducible rfl
 ·simp only [Act.put, pB, pC, pD]; rfl
 refine ord_read rfl rfl rfl rfl rfl (fun _ _ _ _ h => h) ?_ ?_ ?_ ?_ ?_
 rotate_left 2
 ·intro w' hg; have q := hg.cell i0' (fun h => h); go_simp; with_reducible rfl
 ·simp only [Act.put, pB, pC, pD]; rfl
 iterate 2
  refine ord_pure rfl rfl rfl rfl rfl (fun _ _ _ _ h => h) ?_ ?_ ?_ ?_ ?_
  rotate_left 2
  ·intro w'; go_simp; with_reducible rfl
  ·simp only [Act.put, pB, pC, pD]; rfl
 refine ord_read rfl rfl rfl rfl rfl (fun _ _ _ _ h => h) ?_ ?_ ?_ ?_ ?_
 rotate_left 2
 ·intro w' hg; have q := hg.cell i2' (fun h => h); go_simp; with_reducible rfl
 ·simp only [Act.put, pB, pC, pD]; rfl
 iterate 3
  refine ord_set rfl rfl rfl rfl ?_ ?_ ?_ ?_ ?_
  rotate_left 2
  ·go_simp; with_reducible rfl
  ·simp only [Act.put, pB, pC, pD]; rfl
 refine ord_nil ?_
 go_wp2
 go_ret3
 exact ⟨rfl, (Keep.refl _ _).drew⟩
def lekt (x y : KT) : Prop := x.2 < y.2 ∨ x.2 = y.2 ∧ x.1 ≤ y.1
theorem tnext_yes {q : Nat} {l : List KT} {F : Nat → Prop} {w : World} (h : Que q l F w) (h0 : l ≠ []) : Calls Tryz.prog 148 #[.pointer (some ⟨q, 0, none⟩)] w fun e w' =>
    ∃ x, e = .returned (.tuple #[.int .i64 x.1, .int .i64 x.2, .bool true]) ∧ Grow w w' ∧ x ∈ l ∧ (∀ y ∈ l, lekt x y) ∧ okI x.1 := by
 obtain ⟨n, a, v, mb, F', h1, h2, h3⟩ := h
 have hn : 0 < n := by
  rw [← h2.len]
  exact List.length_pos_iff.2 h0
 refine (tnext_is h1.arr hn).mono ?_
 rintro e w' ⟨rfl, hg⟩
 refine ⟨((a 0).k, (a 0).t), rfl, hg, h2.mk' hn, fun y hy => ?_, h1.okk 0 hn⟩
 obtain ⟨i, hi, rfl⟩ := (h2.mem y).1 hy
 exact h1.heap.min i hi
theorem cell1 {w : World} {g T : Nat} {x y : Value} (h : w.heap[g]? = some (.cells #[x, y] T (0, 0))) : w.cell? ⟨g, 1, none⟩ = some y := by
 rw [cell_of_row w g 1 _ _ _ h]; rfl
theorem tat_calls {q : Nat} {l : List KT} {F : Nat → Prop} {w : World} (h : Que q l F w) (key : Int) (hk : okI key) : Calls Tryz.prog 210 #[.pointer (some ⟨q, 0, none⟩), .int .i64 key] w fun e w' => e = .returned (.tuple #[.int .i64 (atL l key), .bool (hasL l key)]) ∧ w = w' := by
 obtain ⟨n, a, v, mb, F', h1, h2, h3⟩ := h
 have hm := cell1 h1.arr.cell
 rcases h1.map.look hk with ⟨i, hi, rfl, hl⟩ | ⟨hno, hl⟩
 ·obtain ⟨r, c, rfl, hr, hnc, i0, i1, i2, _⟩ := h1.arr.get i hi
  rw [atL_yes h2.nd (h2.mk' hi), hasL_iff.2 ⟨_, h2.mk' hi⟩]
  clear h1 h2 h3
  go_enter Tryz.func210, Tryz.ntmps210
  go_wp2
  go_ret2
  exact ⟨rfl, rfl⟩
 ·rw [atL_no (h2.none hno), hasL_no (h2.none hno)]
  clear h1 h2 h3 hno
  go_enter Tryz.func210, Tryz.ntmps210
  go_wp2
  go_ret2
  exact ⟨rfl, rfl⟩
theorem heap_setCell31 {w : World} {g T : Nat} {x y z : Value} (u : Value) (h : w.heap[g]? = some (.cells #[x, y, z] T (0, 0))) : (w.setCell ⟨g, 1, none⟩ u).heap[g]? = some (.cells #[x, u, z] T (0, 0)) := by
 simp only [World.setCell, Array.getElem?_modify]
 simp [h]
def retime (a : Nat → It) (i : Nat) (t : Int) (k : Nat) : It := if k = i then ⟨(a i).b, (a i).k, t⟩ else a k
theorem retime_b (a : Nat → It) (i : Nat) (t : Int) (k : Nat) : (retime a i t k).b = (a k).b := by
 unfold retime; split
 ·rename_i h; rw [h]
 ·rfl
theorem retime_k (a : Nat → It) (i : Nat) (t : Int) (k : Nat) : (retime a i t k).k = (a k).k := by
 unfold retime; split
 ·rename_i h; rw [h]
 ·rfl
theorem ptrs_retime (n : Nat) (a : Nat → It) (i : Nat) (t : Int) : ptrs n (retime a i t) = ptrs n a := by
 unfold ptrs
 apply List.map_congr_left
 intro k _
 rw [retime_b]
theorem Arr.retimed {q n : Nat} {a : Nat → It} {v mv : Value} {F : Nat → Prop} {w : World} (h : Arr q n a v mv F w) {i : Nat} (hi : i < n) (t : Int) :
    Arr q n (retime a i t) v mv F (w.setCell ⟨(a i).b, 1, none⟩ (.int .i64 t)) ∧ Keep F w (w.setCell ⟨(a i).b, 1, none⟩ (.int .i64 t)) := by
 have hfi := h.fit i hi
 have hk : Keep (fun k => k = (a i).b) w (w.setCell ⟨(a i).b, 1, none⟩ (.int .i64 t)) := (Keep.refl (fun k => k = (a i).b) w).setCell (p := ⟨(a i).b, 1, none⟩) (.inl rfl) _
 refine ⟨⟨(hk.block q (h.lt q h.fq) (fun e => hfi.2.1 e.symm)).trans h.cell, ?_, fun k hkn => ?_, fun x y hx hy e => h.inj x y hx hy (by rw [retime_b, retime_b] at e; exact e), h.few, h.fq, h.frow, fun k hkn => by rw [retime_b]; exact h.fit k hkn, fun k hF => Nat.lt_of_lt_of_le (h.lt k hF) hk.size⟩, hk.mono (fun k e => e ▸ hfi.1)⟩
 ·rw [ptrs_retime]
  exact own_keep h.row hk (fun k hv e => hfi.2.2 (e ▸ hv))
 ·rw [retime_b, retime_k]
  by_cases e : k = i
  ·subst e
   rw [show (retime a k t k).t = t from by simp [retime]]
   exact heap_setCell31 _ (h.item k hkn)
  ·rw [show (retime a i t k).t = (a k).t from by simp [retime, e]]
   exact (hk.block _ (h.lt _ (h.fit k hkn).1) (fun e2 => e (h.inj k i hkn hi e2))).trans (h.item k hkn)
theorem MapIs.retimed {w : World} {mb n : Nat} {a : Nat → It} (h : MapIs mb n a w) (i : Nat) (t : Int) : MapIs mb n (retime a i t) w := by
 obtain ⟨D, h1, h2, h3⟩ := h
 refine ⟨D, h1, h2, fun k hk => ?_⟩
 rcases h3 k hk with ⟨j, hj, e, hz⟩ | ⟨hno, hz⟩
 ·exact .inl ⟨j, hj, by rw [retime_k]; exact e, fun z => by rw [retime_b]; exact hz z⟩
 ·exact .inr ⟨fun j hj => by rw [retime_k]; exact hno j hj, hz⟩
theorem Says.retimed {n : Nat} {a : Nat → It} {l : List KT} (h : Says n a l) (kinj : ∀ i j, i < n → j < n → (a i).k = (a j).k → i = j) {i : Nat} (hi : i < n) (t : Int) : Says n (retime a i t) (setL l (a i).k t) := by
 refine ⟨?_, h.nd.set _ _, fun x => ?_⟩
 ·rw [setL_length]
  have := delL_length h.nd (h.mk' hi)
  rw [this, h.len]
 ·rw [mem_setL]
  constructor
  ·rintro (⟨hx, hne⟩ | rfl)
   ·obtain ⟨j, hj, rfl⟩ := (h.mem x).1 hx
    have : j ≠ i := fun e => hne (by rw [e])
    exact ⟨j, hj, by simp [retime, this]⟩
   ·exact ⟨i, hi, by simp [retime]⟩
  ·rintro ⟨j, hj, rfl⟩
   by_cases e : j = i
   ·subst e
    exact .inr (by simp [retime])
   ·refine .inl ⟨?_, ?_⟩
    ·simp only [retime, if_neg e]
     exact h.mk' hj
    ·simp only [retime, if_neg e]
     exact fun e2 => e (kinj j i hj hi e2)
theorem QueIs.reorder {q n : Nat} {a b : Nat → It} {v2 : Value} {mb : Nat} {F2 : Nat → Prop} {w : World} (hA : Arr q n b v2 (.map (some mb)) F2 w) (hH : HeapN b n) (hM : MapIs mb n a w) (hn : ¬ F2 mb) (hok : ∀ i, i < n → okI (a i).k) (hS : Same a b n)
    (hk : ∀ i j, i < n → j < n → (a i).k = (a j).k → i = j) (hb : ∀ i j, i < n → j < n → (a i).b = (a j).b → i = j) : QueIs q n b v2 mb F2 w := by
 refine ⟨hA, hH, hM.same hS, hn, fun i hi => ?_, fun i j hi hj e => ?_⟩
 ·obtain ⟨j, hj, e⟩ := hS.to i hi
  rw [e]; exact hok j hj
 ·obtain ⟨x, hx, ex⟩ := hS.to i hi
  obtain ⟨y, hy, ey⟩ := hS.to j hj
  rw [ex, ey] at e
  have := hk x y hx hy e
  subst this
  exact hA.inj i j hi hj (by rw [ex, ey])
theorem tset_there {q n : Nat} {a : Nat → It} {v : Value} {mb : Nat} {F' : Nat → Prop} {w : World} (h1 : QueIs q n a v mb F' w) {i : Nat} (hi : i < n) (hl : (Instr.lookup 208 (.map (some mb)) (.int .i64 (a i).k) false).run Tryz.prog w = .ok (.pointer (some ⟨(a i).b, 0, none⟩)) w) (at_ : Int) :
    Calls Tryz.prog 80 #[.pointer (some ⟨q, 0, none⟩), .int .i64 (a i).k, .int .i64 at_] w fun e w' => e = .returned (.bool true) ∧ ∃ b v2, QueIs q n b v2 mb F' w' ∧ Same (retime a i at_) b n ∧ Keep F' w w' := by
 obtain ⟨r, c, rfl, hr, hnc, i0, i1, i2, i3⟩ := h1.arr.get i hi
 have hm := cell1 h1.arr.cell
 have hz : w.frozen? ⟨(a i).b, 1, none⟩ = false := frozen0 1 (h1.arr.item i hi)
 obtain ⟨hR, hK⟩ := h1.arr.retimed hi at_
 have HR := LH hR
 have HK := LH hK
 have H1 := LH h1
 have i3' : (w.setCell ⟨(a i).b, 1, none⟩ (.int .i64 at_)).drew.cell? ⟨(a i).b, 2, none⟩ = some (.int .i64 i) := by
  obtain ⟨_, _, _, _, _, _, _, _, j3⟩ := hR.get i hi
  rw [retime_b] at j3
  exact j3
 clear h1 hR hK
 go_enter Tryz.func80, Tryz.ntmps80
 go_wp2
 refine region_ord [0, 1, 2, 3, 4, 5, 6, 7, 8] [8] [7] [8] rfl (by kernel_rfl) ?_
 iterate 7
  refine ord_pure rfl rfl rfl rfl rfl (fun _ _ _ _ h => h) ?_ ?_ ?_ ?_ ?_
  rotate_left 2
  ·intro w'; go_simp; with_reducible rfl
  ·simp only [Act.put, pB, pC, pD]; rfl
 refine ord_read rfl rfl rfl rfl rfl (fun _ _ _ _ h => h) ?_ ?_ ?_ ?_ ?_
 rotate_left 2
 ·intro w' hg; have q := hg.cell i3' (fun h => h); go_simp; with_reducible rfl
 ·simp only [Act.put, pB, pC, pD]; rfl
 refine ord_call rfl rfl rfl rfl rfl Tryz.func151 rfl rfl [.iface 231 (.pointer (some ⟨q, 0, none⟩)), .int .i64 i] rfl ?_
 refine (fix_calls q n (retime a i at_) _ _ F' _ (HR.out.grow ((Keep.refl NoB _).drew)) i hi (H1.out.heap.change (fun k hk => by simp [retime, hk]))).mono ?_
 rintro e w2 ⟨rfl, b, hp, hH⟩
 have HP := LH hp
 have HH := LH hH
 clear hp hH
 refine ⟨_, rfl, fun h => absurd (by simp) h, ?_⟩
 simp only [Act.put, pB, pC, pD]
 refine ord_nil ?_
 go_wp2
 go_ret
 have hkk : Keep F' w w2 := (HK.out.grow ((Keep.refl NoB _).drew)).trans HP.out.keep (fun i hi => .inl hi)
 refine ⟨rfl, b, .slice (some ⟨r, 0, none⟩) n c, ?_, HP.out.same, hkk⟩
 refine QueIs.reorder HP.out.arr HH.out ((H1.out.map.keep hkk H1.out.nmb).retimed i at_) H1.out.nmb (fun j hj => by rw [retime_k]; exact H1.out.okk j hj) HP.out.same (fun x y hx hy e => by rw [retime_k, retime_k] at e; exact H1.out.kinj x y hx hy e) (fun x y hx hy e => by rw [retime_b, retime_b] at e; exact H1.out.arr.inj x y hx hy e)
theorem MapIs.added {w2 : World} {mb n : Nat} {a : Nat → It} {D : DataW Unit} (hm : Maps.IsMap D) (hs : Maps.size D = n) (ht : Maps.Tidy D) (h3 : ∀ k, okI k → (∃ i, i < n ∧ (a i).k = k ∧ ∀ z, D.atKey (.int .i64 k) z = .lit (.int .u64 (a i).b)) ∨ ((∀ i, i < n → (a i).k ≠ k) ∧ ∀ z, D.atKey (.int .i64 k) z = z))
    (x : It) (hk : okI x.k) (hno : ∀ i, i < n → (a i).k ≠ x.k) (hown : w2.ownsMap Tryz.prog 3 pR mb (n + 1) (D.put (.int .i64 x.k) (.lit (.int .u64 x.b)))) : MapIs mb (n + 1) (fun i => if i = n then x else a i) w2 := by
 refine ⟨_, hown, ?_, fun k hk2 => ?_⟩
 ·rw [Maps.size_put ht]
  have : Maps.has D (.int .i64 x.k) = false := by
   rcases h3 x.k hk with ⟨i, hi, e, _⟩ | ⟨_, hz⟩
   ·exact absurd e (hno i hi)
   ·exact Maps.has_false_of_atKey hz
  rw [this, hs]
  rfl
 ·by_cases e : k = x.k
  ·subst e
   exact .inl ⟨n, by omega, by simp, fun z => by rw [Maps.atKey_put_same hm (isKey _)]; simp⟩
  ·have hne : (Lit.int .i64 k) ≠ .int .i64 x.k := fun h => e (by injection h)
   rcases h3 k hk2 with ⟨i, hi, e2, hz⟩ | ⟨hno2, hz⟩
   ·refine .inl ⟨i, by omega, by simp only [if_neg (show i ≠ n by omega)]; exact e2, fun z => ?_⟩
    rw [Maps.atKey_put_other hne]
    simp only [if_neg (show i ≠ n by omega)]
    exact hz z
   ·refine .inr ⟨fun i hi => ?_, fun z => by rw [Maps.atKey_put_other hne]; exact hz z⟩
    by_cases hin : i = n
    ·simp only [hin, if_true]; exact fun e2 => e e2.symm
    ·simp only [if_neg hin]; exact hno2 i (by omega)
theorem Says.added {n : Nat} {a : Nat → It} {l : List KT} (h : Says n a l) (x : It) (hno : ∀ i, i < n → (a i).k ≠ x.k) : Says (n + 1) (fun i => if i = n then x else a i) (setL l x.k x.t) := by
 have hd : delL l x.k = l := delL_absent (h.none hno)
 refine ⟨by rw [setL_length, hd, h.len], h.nd.set _ _, fun y => ?_⟩
 rw [mem_setL]
 constructor
 ·rintro (⟨hy, _⟩ | rfl)
  ·obtain ⟨i, hi, rfl⟩ := (h.mem y).1 hy
   exact ⟨i, by omega, by simp only [if_neg (show i ≠ n by omega)]⟩
  ·exact ⟨n, by omega, by simp⟩
 ·rintro ⟨i, hi, rfl⟩
  by_cases hin : i = n
  ·exact .inr (by simp [hin])
  ·simp only [if_neg hin]
   exact .inl ⟨h.mk' (by omega), hno i (by omega)⟩
theorem tset_new {q n : Nat} {a : Nat → It} {v : Value} {mb : Nat} {F' : Nat → Prop} {w : World} (h1 : QueIs q n a v mb F' w) (key : Int) (hk : okI key) (hno : ∀ i, i < n → (a i).k ≠ key) (hl : (Instr.lookup 208 (.map (some mb)) (.int .i64 key) false).run Tryz.prog w = .ok (.pointer none) w) (hn : n < 1000) (at_ : Int) :
    Calls Tryz.prog 80 #[.pointer (some ⟨q, 0, none⟩), .int .i64 key, .int .i64 at_] w fun e w' => e = .returned (.bool true) ∧ ∃ b v2 F2 x, QueIs q (n + 1) b v2 mb F2 w' ∧ x.k = key ∧ x.t = at_ ∧ Same (fun i => if i = n then x else a i) b (n + 1) ∧ Keep (fun k => F' k ∨ k = mb) w w' ∧ ∀ k, F2 k → F' k ∨ w.heap.size ≤ k := by
 obtain ⟨A, c, rfl⟩ := h1.arr.slice
 have hc := h1.arr.cell0
 have hm := cell1 h1.arr.cell
 obtain ⟨D, d1, d2, d3⟩ := h1.map
 have hmb := d1.lt
 have hx0 : Keep NoB w (w.alloc (.cells #[.int .i64 key, .int .i64 at_, .int .i64 0] 229)) := (Keep.refl _ _).alloc _
 have hm1 := hx0.cell hm (fun h => h)
 have H1 := LH h1
 have Hd1 := LH (d1.alloc (.cells #[.int .i64 key, .int .i64 at_, .int .i64 0] 229))
 have Hd := LH (And.intro d2 d3)
 have Hno := LH hno
 have hcell := heap_alloc_new w (.cells #[.int .i64 key, .int .i64 at_, .int .i64 0] 229)
 clear h1 d1 d2 d3 hno
 go_enter Tryz.func80, Tryz.ntmps80
 go_wp2_with (at_mapUpdate; refine wpList_mapUpdate_own _ rfl _ _ _ 208 rfl 3 227 keyed_int u_map pR mb n D rfl (by exact Hd1.out) (by simp only [maxLen]; omega) _ _ (.int .i64 key) rfl rfl (key_int hk) (.lit (.int .u64 w.heap.size)) [] rfl ?_; intro w2 hown hgr; refine Hid.out ?_)
 refine LH ?_
 have k12 : Keep (fun k => k = mb) w w2 := (((Keep.refl (fun k => k = mb) w).alloc _).grown hgr (fun k hk => .inl (by injection hk with hk; exact hk.symm)))
 have HA := LH (H1.out.arr.keep k12 (fun k hk e => H1.out.nmb (e ▸ hk)))
 have hx2 : Hid (w2.heap[w.heap.size]? = some (.cells #[.int .i64 key, .int .i64 at_, .int .i64 0] 229 (0, 0))) :=
  (hgr.block w.heap.size (by simp) (fun e => by injection e with e; omega)).trans hcell
 have htidy := hown.tidy keyed_int
 have Htd := LH (Hd1.out.tidy keyed_int)
 have HM : Hid (MapIs mb (n + 1) (fun i => if i = n then ⟨w.heap.size, key, at_⟩ else a i) w2) := MapIs.added Htd.out.isMap Hd.out.1 Htd.out Hd.out.2 ⟨w.heap.size, key, at_⟩ hk Hno.out hown
 have Hk12 := LH k12
 have hFn : ¬ F' w.heap.size := fun h => absurd (H1.out.arr.lt _ h) (by omega)
 clear k12 hown hgr htidy hcell hm1 hx0 hc hm
 go_wp2_with fail
 refine (heappush_calls q n a _ _ F' w2 HA.out H1.out.heap ⟨w.heap.size, key, at_⟩ 0 hx2.out hFn hn).mono ?_
 rintro e w3 ⟨rfl, b, v3, F2, h3, hH3, hS3, hK3, hF3⟩
 have H3 := LH h3
 have HH3 := LH hH3
 have HS3 := LH hS3
 have HK3 := LH hK3
 have HF3 := LH hF3
 clear h3 hH3 hS3 hK3 hF3
 go_wp2
 go_ret
 have hsz := Hk12.out.size
 have hnmb : ¬ (F' mb ∨ mb = w.heap.size) := fun h => h.elim H1.out.nmb (fun e => by omega)
 refine ⟨rfl, b, v3, F2, ⟨w.heap.size, key, at_⟩, ?_, rfl, rfl, HS3.out, ?_, fun k hk => ?_⟩
 ·refine QueIs.reorder H3.out HH3.out (HM.out.keep HK3.out hnmb) (fun h => ?_) (fun i hi => ?_) HS3.out (fun i j hi hj e => ?_) (fun i j hi hj e => ?_)
  ·rcases HF3.out mb h with e | e | e
   ·exact H1.out.nmb e
   ·omega
   ·omega
  ·by_cases e : i = n
   ·simp only [e, if_true]; exact hk
   ·simp only [if_neg e]; exact H1.out.okk i (by omega)
  ·by_cases e1 : i = n <;> by_cases e2 : j = n
   ·omega
   ·simp only [e1, if_true, if_neg e2] at e
    exact absurd e.symm (Hno.out j (by omega))
   ·simp only [e2, if_true, if_neg e1] at e
    exact absurd e (Hno.out i (by omega))
   ·simp only [if_neg e1, if_neg e2] at e
    exact H1.out.kinj i j (by omega) (by omega) e
  ·by_cases e1 : i = n <;> by_cases e2 : j = n
   ·omega
   ·simp only [e1, if_true, if_neg e2] at e
    exact absurd (e ▸ (H1.out.arr.fit j (by omega)).1) hFn
   ·simp only [e2, if_true, if_neg e1] at e
    exact absurd (e ▸ (H1.out.arr.fit i (by omega)).1) hFn
   ·simp only [if_neg e1, if_neg e2] at e
    exact H1.out.arr.inj i j (by omega) (by omega) e
 ·refine (Hk12.out.mono (T := fun k => F' k ∨ k = mb) (fun _ h => .inr h)).trans HK3.out (fun k hk => ?_)
  rcases hk with e | e
  ·exact .inl (.inl e)
  ·exact .inr (by rw [e]; exact Nat.le_refl _)
 ·rcases HF3.out k hk with e | e | e
  ·exact .inl e
  ·exact .inr (by rw [e]; exact Nat.le_refl _)
  ·exact .inr (by omega)
def okSet (l : List KT) (key : Int) : Bool := hasL l key || decide (l.length < 1000)
def rSet (l : List KT) (key at_ : Int) : List KT := if okSet l key then setL l key at_ else l
theorem tset_full {q n : Nat} {a : Nat → It} {v : Value} {mb : Nat} {F' : Nat → Prop} {w : World} (h1 : QueIs q n a v mb F' w) (key : Int) (hl : (Instr.lookup 208 (.map (some mb)) (.int .i64 key) false).run Tryz.prog w = .ok (.pointer none) w) (hn : 1000 ≤ n) (at_ : Int) :
    Calls Tryz.prog 80 #[.pointer (some ⟨q, 0, none⟩), .int .i64 key, .int .i64 at_] w fun e w' => e = .returned (.bool false) ∧ w = w' := by
 obtain ⟨A, c, rfl⟩ := h1.arr.slice
 have hc := h1.arr.cell0
 have hm := cell1 h1.arr.cell
 clear h1
 go_enter Tryz.func80, Tryz.ntmps80
 go_wp2
 go_ret
 exact ⟨rfl, rfl⟩
theorem tset_calls {q : Nat} {l : List KT} {F : Nat → Prop} {w : World} (h : Que q l F w) (key : Int) (hk : okI key) (at_ : Int) :
    Calls Tryz.prog 80 #[.pointer (some ⟨q, 0, none⟩), .int .i64 key, .int .i64 at_] w fun e w' => e = .returned (.bool (okSet l key)) ∧ ∃ F2, Que q (rSet l key at_) F2 w' ∧ Keep F w w' ∧ ∀ k, F2 k → F k ∨ w.heap.size ≤ k := by
 obtain ⟨n, a, v, mb, F', h1, h2, h3⟩ := h
 rcases h1.map.look hk with ⟨i, hi, rfl, hl⟩ | ⟨hno, hl⟩
 ·have ho : okSet l (a i).k = true := by simp [okSet, hasL_iff.2 ⟨_, h2.mk' hi⟩]
  rw [ho, show rSet l (a i).k at_ = setL l (a i).k at_ from by simp [rSet, ho]]
  refine (tset_there h1 hi hl at_).mono ?_
  rintro e w' ⟨rfl, b, v2, hQ, hS, hK⟩
  exact ⟨rfl, F, ⟨n, b, v2, mb, F', hQ, (h2.retimed h1.kinj hi at_).same hS, h3⟩, hK.mono (fun k hF => h3 k (.inl hF)), fun k hF => .inl hF⟩
 ·have hh := hasL_no (h2.none hno)
  by_cases hn : n < 1000
  ·have ho : okSet l key = true := by simp [okSet, h2.len, hn]
   rw [ho, show rSet l key at_ = setL l key at_ from by simp [rSet, ho]]
   refine (tset_new h1 key hk hno hl hn at_).mono ?_
   rintro e w' ⟨rfl, b, v2, F2, x, hQ, e1, e2, hS, hK, hF⟩
   have hs := (h2.added x (by rw [e1]; exact hno)).same hS
   rw [e1, e2] at hs
   refine ⟨rfl, fun k => F2 k ∨ k = mb, ⟨n + 1, b, v2, mb, F2, hQ, hs, fun k h => h⟩, hK.mono (fun k hF => h3 k hF), fun k hk2 => ?_⟩
   rcases hk2 with e | e
   ·exact (hF k e).imp (fun h => h3 k (.inl h)) id
   ·exact .inl (h3 k (.inr e))
  ·have ho : okSet l key = false := by simp [okSet, hh, h2.len]; omega
   rw [ho, show rSet l key at_ = l from by simp [rSet, ho]]
   refine (tset_full h1 key hl (by omega) at_).mono ?_
   rintro e w' ⟨rfl, rfl⟩
   exact ⟨rfl, F, ⟨n, a, v, mb, F', h1, h2, h3⟩, Keep.refl _ _, fun k h => .inl h⟩
theorem tdrop_no {q n : Nat} {a : Nat → It} {v : Value} {mb : Nat} {F' : Nat → Prop} {w : World} (h1 : QueIs q n a v mb F' w) (key : Int) (hl : (Instr.lookup 208 (.map (some mb)) (.int .i64 key) false).run Tryz.prog w = .ok (.pointer none) w) :
    Calls Tryz.prog 149 #[.pointer (some ⟨q, 0, none⟩), .int .i64 key] w fun e w' => e = .returned (.bool false) ∧ w = w' := by
 have hm := cell1 h1.arr.cell
 clear h1
 go_enter Tryz.func149, Tryz.ntmps149
 go_wp2
 go_ret
 exact ⟨rfl, rfl⟩
theorem MapIs.cut {w2 : World} {mb m : Nat} {a b : Nat → It} {i : Nat} (hi : i ≤ m) {D : DataW Unit} (hs : Maps.size D = m + 1) (ht : Maps.Tidy D) (h3 : ∀ k, okI k → (∃ i, i < m + 1 ∧ (a i).k = k ∧ ∀ z, D.atKey (.int .i64 k) z = .lit (.int .u64 (a i).b)) ∨ ((∀ i, i < m + 1 → (a i).k ≠ k) ∧ ∀ z, D.atKey (.int .i64 k) z = z))
    (hok : okI (a i).k) (kinj : ∀ i j, i < m + 1 → j < m + 1 → (a i).k = (a j).k → i = j) (hS : Same (swp a i m) b m) (hown : w2.ownsMap Tryz.prog 3 pR mb (m + 1) (D.del (.int .i64 (a i).k))) : MapIs mb m b w2 := by
 have hhas : Maps.has D (.int .i64 (a i).k) = true := by
  rcases h3 _ hok with ⟨j, hj, e, hz⟩ | ⟨hno, _⟩
  ·exact Maps.has_true_of_atKey hz
  ·exact absurd rfl (hno i (by omega))
 have hsz : Maps.size (D.del (.int .i64 (a i).k)) = m := by
  have := Maps.size_del (k := .int .i64 (a i).k) ht
  rw [hhas, hs] at this
  simpa using this
 have hown2 := tight hown
 rw [hsz] at hown2
 -- the items of b are those of a but i
 have hto : ∀ j, j < m → ∃ x, x < m + 1 ∧ x ≠ i ∧ b j = a x := fun j hj => by
  obtain ⟨y, hy, e⟩ := hS.to j hj
  rw [e]
  unfold swp
  split
  ·exact ⟨m, by omega, by omega, rfl⟩
  ·rw [if_neg (by omega)]
   exact ⟨y, by omega, by assumption, rfl⟩
 have hof : ∀ x, x < m + 1 → x ≠ i → ∃ j, j < m ∧ b j = a x := fun x hx hne => by
  by_cases e : x = m
  ·subst e
   obtain ⟨j, hj, e2⟩ := hS.of i (by omega)
   exact ⟨j, hj, by rw [← e2]; simp [swp]⟩
  ·obtain ⟨j, hj, e2⟩ := hS.of x (by omega)
   exact ⟨j, hj, by rw [← e2]; simp [swp, hne, e]⟩
 refine ⟨_, hown2, hsz, fun k hk => ?_⟩
 by_cases e : k = (a i).k
 ·subst e
  refine .inr ⟨fun j hj e2 => ?_, fun z => Maps.atKey_del_same z⟩
  obtain ⟨x, hx, hne, e3⟩ := hto j hj
  rw [e3] at e2
  exact hne (kinj x i hx (by omega) e2)
 ·have hne : (Lit.int .i64 k) ≠ .int .i64 (a i).k := fun h => e (by injection h)
  rcases h3 k hk with ⟨j, hj, e2, hz⟩ | ⟨hno, hz⟩
  ·obtain ⟨x, hx, e3⟩ := hof j hj (fun e4 => e (by rw [← e2, e4]))
   exact .inl ⟨x, hx, by rw [e3]; exact e2, fun z => by rw [Maps.atKey_del_other hne, e3]; exact hz z⟩
  ·refine .inr ⟨fun j hj => ?_, fun z => by rw [Maps.atKey_del_other hne]; exact hz z⟩
   obtain ⟨x, hx, _, e3⟩ := hto j hj
   rw [e3]
   exact hno x hx
theorem QueIs.cut {q m : Nat} {a b : Nat → It} {v2 : Value} {mb : Nat} {F : Nat → Prop} {w2 : World} {i : Nat} (hi : i ≤ m) (hA : Arr q m b v2 (.map (some mb)) F w2) (hH : HeapN b m) (hM : MapIs mb m b w2) (hn : ¬ F mb) (hok : ∀ i, i < m + 1 → okI (a i).k)
    (hS : Same (swp a i m) b m) (kinj : ∀ i j, i < m + 1 → j < m + 1 → (a i).k = (a j).k → i = j) : QueIs q m b v2 mb F w2 := by
 have hto : ∀ j, j < m → ∃ x, x < m + 1 ∧ b j = a x := fun j hj => by
  obtain ⟨y, hy, e⟩ := hS.to j hj
  rw [e]
  unfold swp
  split
  ·exact ⟨m, by omega, rfl⟩
  ·rw [if_neg (by omega)]
   exact ⟨y, by omega, rfl⟩
 refine ⟨hA, hH, hM, hn, fun j hj => ?_, fun x y hx hy e => ?_⟩
 ·obtain ⟨x, hx, e⟩ := hto j hj
  rw [e]; exact hok x hx
 ·obtain ⟨x1, hx1, e1⟩ := hto x hx
  obtain ⟨y1, hy1, e2⟩ := hto y hy
  rw [e1, e2] at e
  have := kinj x1 y1 hx1 hy1 e
  subst this
  exact hA.inj x y hx hy (by rw [e1, e2])
theorem Says.cut {m : Nat} {a b : Nat → It} {l : List KT} (h : Says (m + 1) a l) {i : Nat} (hi : i ≤ m) (hS : Same (swp a i m) b m) (kinj : ∀ i j, i < m + 1 → j < m + 1 → (a i).k = (a j).k → i = j) : Says m b (delL l (a i).k) := by
 refine ⟨?_, h.nd.del _, fun x => ?_⟩
 ·have := delL_length h.nd (h.mk' (i := i) (by omega))
  rw [h.len] at this
  omega
 ·rw [mem_delL]
  constructor
  ·rintro ⟨hx, hne⟩
   obtain ⟨j, hj, rfl⟩ := (h.mem x).1 hx
   have hji : j ≠ i := fun e => hne (by rw [e])
   by_cases e : j = m
   ·subst e
    obtain ⟨y, hy, e2⟩ := hS.of i (by omega)
    exact ⟨y, hy, by rw [← e2]; simp [swp]⟩
   ·obtain ⟨y, hy, e2⟩ := hS.of j (by omega)
    exact ⟨y, hy, by rw [← e2]; simp [swp, hji, e]⟩
  ·rintro ⟨j, hj, rfl⟩
   obtain ⟨y, hy, e⟩ := hS.to j hj
   rw [e]
   unfold swp
   split
   ·refine ⟨h.mk' (by omega), fun e2 => ?_⟩
    have := kinj m i (by omega) (by omega) e2
    omega
   ·rename_i hyi
    rw [if_neg (by omega)]
    exact ⟨h.mk' (by omega), fun e2 => hyi (kinj y i (by omega) (by omega) e2)⟩
theorem tdrop_there {q m : Nat} {a : Nat → It} {v : Value} {mb : Nat} {F' : Nat → Prop} {w : World} (h1 : QueIs q (m + 1) a v mb F' w) {i : Nat} (hi : i ≤ m) (hl : (Instr.lookup 208 (.map (some mb)) (.int .i64 (a i).k) false).run Tryz.prog w = .ok (.pointer (some ⟨(a i).b, 0, none⟩)) w) :
    Calls Tryz.prog 149 #[.pointer (some ⟨q, 0, none⟩), .int .i64 (a i).k] w fun e w' => e = .returned (.bool true) ∧ ∃ b v2, QueIs q m b v2 mb F' w' ∧ Same (swp a i m) b m ∧ Keep (fun k => F' k ∨ k = mb) w w' := by
 obtain ⟨r, c, rfl, hr, hnc, i0, i1, i2, i3⟩ := h1.arr.get i (by omega)
 have hm := cell1 h1.arr.cell
 obtain ⟨D, d1, d2, d3⟩ := h1.map
 have hld : ∀ w', Grow w.drew w' → (Instr.lookup 208 (.map (some mb)) (.int .i64 (a i).k) false).run Tryz.prog w' = .ok (.pointer (some ⟨(a i).b, 0, none⟩)) w' := fun w' hg => by
  have h2 : MapIs mb (m + 1) a w' := h1.map.keep ((Keep.refl NoB w).drew.grow hg) (fun h => h)
  rcases h2.look (h1.okk i (by omega)) with ⟨j, hj, e, h⟩ | ⟨hno, h⟩
  ·rw [h1.kinj j i hj (by omega) e] at h; exact h
  ·exact absurd rfl (hno i (by omega))
 have H1 := LH h1
 have Hd1 := LH d1
 have Hd := LH (And.intro d2 d3)
 have i3' : w.drew.cell? ⟨(a i).b, 2, none⟩ = some (.int .i64 i) := by simpa using i3
 have hmd : w.drew.cell? ⟨q, 1, none⟩ = some (.map (some mb)) := by simpa using hm
 clear h1 d1 d2 d3
 go_enter Tryz.func149, Tryz.ntmps149
 go_wp2
 refine region_ord [0, 1, 2, 3, 4, 5, 6, 7, 8, 9, 10, 11, 12, 13] [13] [7, 9, 12] [13] rfl (by kernel_rfl) ?_
 iterate 7
  refine ord_pure rfl rfl rfl rfl rfl (fun _ _ _ _ h => h) ?_ ?_ ?_ ?_ ?_
  rotate_left 2
  ·intro w'; go_simp; with_reducible rfl
  ·simp only [Act.put, pB, pC, pD]; rfl
 refine ord_read rfl rfl rfl rfl rfl (fun _ _ _ _ h => h) ?_ ?_ ?_ ?_ ?_
 rotate_left 2
 ·intro w' hg; have q := hg.cell hmd (fun h => h); go_simp; with_reducible rfl
 ·simp only [Act.put, pB, pC, pD]; rfl
 refine ord_pure rfl rfl rfl rfl rfl (fun _ _ _ _ h => h) ?_ ?_ ?_ ?_ ?_
 rotate_left 2
 ·intro w'; go_simp; with_reducible rfl
 ·simp only [Act.put, pB, pC, pD]; rfl
 refine ord_read rfl rfl rfl rfl rfl (fun _ _ _ _ h => h) ?_ ?_ ?_ ?_ ?_
 rotate_left 2
 ·intro w' hg; have q := hld w' hg; go_simp; with_reducible rfl
 ·simp only [Act.put, pB, pC, pD]; rfl
 iterate 2
  refine ord_pure rfl rfl rfl rfl rfl (fun _ _ _ _ h => h) ?_ ?_ ?_ ?_ ?_
  rotate_left 2
  ·intro w'; go_simp; with_reducible rfl
  ·simp only [Act.put, pB, pC, pD]; rfl
 refine ord_read rfl rfl rfl rfl rfl (fun _ _ _ _ h => h) ?_ ?_ ?_ ?_ ?_
 rotate_left 2
 ·intro w' hg; have q := hg.cell i3' (fun h => h); go_simp; with_reducible rfl
 ·simp only [Act.put, pB, pC, pD]; rfl
 refine ord_call rfl rfl rfl rfl rfl Tryz.func212 rfl rfl [.iface 231 (.pointer (some ⟨q, 0, none⟩)), .int .i64 i] rfl ?_
 refine (remove_calls q m a _ _ F' _ (H1.out.arr.grow ((Keep.refl NoB _).drew)) H1.out.heap i hi).mono ?_
 rintro e w2 ⟨x, b, v2, rfl, hA, hH, hS, hK⟩
 have hm2 := cell1 hA.cell
 have HA := LH hA
 have HH := LH hH
 have HS := LH hS
 have hkw : Keep F' w w2 := ((Keep.refl F' w).drew).trans hK (fun i hi => .inl hi)
 have HK := LH hkw
 have Hown := LH (ownsMap_keep Hd1.out hkw H1.out.nmb)
 refine ⟨_, rfl, fun h => absurd (by simp) h, ?_⟩
 clear hA hH hS hK hkw hld
 simp only [Act.put, pB, pC, pD]
 refine ord_nil ?_
 go_wp2_with (at_delete; refine wpList_delete_own _ rfl _ _ 208 3 rfl 227 keyed_int u_map pR mb (m + 1) D rfl (by exact Hown.out) _ _ rfl (key_int (H1.out.okk i (by omega))) ?_; intro w3 hown hturn; refine Hid.out ?_)
 refine LH ?_
 have k3 : Keep (fun k => k = mb) w2 w3 := (Keep.refl (fun k => k = mb) w2).grown hturn.grown (fun k hk => .inl (by injection hk with hk; exact hk.symm))
 have HM : Hid (MapIs mb m b w3) := MapIs.cut hi Hd.out.1 (Hd1.out.tidy keyed_int) Hd.out.2 (H1.out.okk i (by omega)) H1.out.kinj HS.out hown
 have HA3 := LH (HA.out.keep k3 (fun k hk e => H1.out.nmb (e ▸ hk)))
 have HK3 : Hid (Keep (fun k => F' k ∨ k = mb) w w3) := (HK.out.mono (fun _ h => .inl h)).trans k3 (fun k hk => .inl (.inr hk))
 clear hown hturn k3
 go_wp2
 go_ret
 exact ⟨rfl, b, v2, QueIs.cut hi HA3.out HH.out HM.out H1.out.nmb H1.out.okk HS.out H1.out.kinj, HS.out, HK3.out⟩
theorem tdrop_calls {q : Nat} {l : List KT} {F : Nat → Prop} {w : World} (h : Que q l F w) (key : Int) (hk : okI key) :
    Calls Tryz.prog 149 #[.pointer (some ⟨q, 0, none⟩), .int .i64 key] w fun e w' => e = .returned (.bool (hasL l key)) ∧ Que q (delL l key) F w' ∧ Keep F w w' := by
 obtain ⟨n, a, v, mb, F', h1, h2, h3⟩ := h
 rcases h1.map.look hk with ⟨i, hi, rfl, hl⟩ | ⟨hno, hl⟩
 ·rw [hasL_iff.2 ⟨_, h2.mk' hi⟩]
  obtain ⟨m, rfl⟩ : ∃ m, n = m + 1 := ⟨n - 1, by omega⟩
  refine (tdrop_there h1 (by omega) hl).mono ?_
  rintro e w' ⟨rfl, b, v2, hQ, hS, hK⟩
  exact ⟨rfl, ⟨m, b, v2, mb, F', hQ, h2.cut (by omega) hS h1.kinj, h3⟩, hK.mono (fun k hF => h3 k hF)⟩
 ·rw [hasL_no (h2.none hno), delL_absent (h2.none hno)]
  refine (tdrop_no h1 key hl).mono ?_
  rintro e w' ⟨rfl, rfl⟩
  exact ⟨rfl, ⟨n, a, v, mb, F', h1, h2, h3⟩, Keep.refl _ _⟩
theorem lekt_antisymm {x y : KT} (h : lekt x y) (k : lekt y x) : x = y := by
 unfold lekt at *
 have h1 : x.1 = y.1 := by omega
 have h2 : x.2 = y.2 := by omega
 cases x; cases y
 simp_all
def restL (l : List KT) (now : Int) : List KT := l.filter (fun x => decide (now < x.2))
structure DueOf (l : List KT) (now : Int) (ds : List KT) : Prop where
 sorted : ds.Pairwise lekt
 nd : ND ds
 mem : ∀ x, x ∈ ds ↔ x ∈ l ∧ x.2 ≤ now
 len : ds.length + (restL l now).length = l.length
theorem sorted_unique : ∀ {a b : List KT}, a.Pairwise lekt → b.Pairwise lekt → ND a → ND b → (∀ x, x ∈ a ↔ x ∈ b) → a = b
 | [], [], _, _, _, _, _ => rfl
 | [], y :: r, _, _, _, _, h => by have := (h y).2 (by simp); cases this
 | x :: r, [], _, _, _, _, h => by have := (h x).1 (by simp); cases this
 | x :: r, y :: s, ha, hb, na, nb, h => by
  obtain ⟨a1, a2⟩ := List.pairwise_cons.1 ha
  obtain ⟨b1, b2⟩ := List.pairwise_cons.1 hb
  obtain ⟨c1, c2⟩ := List.pairwise_cons.1 na
  obtain ⟨d1, d2⟩ := List.pairwise_cons.1 nb
  have hxy : x = y := by
   rcases List.mem_cons.1 ((h x).1 (by simp)) with e | e
   ·exact e
   ·rcases List.mem_cons.1 ((h y).2 (by simp)) with e2 | e2
    ·exact e2.symm
    ·exact lekt_antisymm (a1 y e2) (b1 x e)
  subst hxy
  congr 1
  refine sorted_unique a2 b2 c2 d2 (fun z => ⟨fun hz => ?_, fun hz => ?_⟩)
  ·rcases List.mem_cons.1 ((h z).1 (by simp [hz])) with e | e
   ·exact absurd (e ▸ rfl) (c1 z hz)
   ·exact e
  ·rcases List.mem_cons.1 ((h z).2 (by simp [hz])) with e | e
   ·exact absurd (e ▸ rfl) (d1 z hz)
   ·exact e
theorem DueOf.unique {l : List KT} {now : Int} {a b : List KT} (h : DueOf l now a) (k : DueOf l now b) : a = b :=
 sorted_unique h.sorted k.sorted h.nd k.nd (fun x => (h.mem x).trans (k.mem x).symm)
structure Part (l : List KT) (now : Int) (ds l' : List KT) : Prop where
 sorted : ds.Pairwise lekt
 nd : ND ds
 nd' : ND l'
 le : ∀ x ∈ ds, ∀ y ∈ l', lekt x y
 ne : ∀ x ∈ ds, ∀ y ∈ l', x.1 ≠ y.1
 due : ∀ x ∈ ds, x.2 ≤ now
 mem : ∀ x, x ∈ l ↔ x ∈ ds ∨ x ∈ l'
 len : ds.length + l'.length = l.length
 rest : restL l' now = restL l now
theorem Part.start {l : List KT} (h : ND l) (now : Int) : Part l now [] l :=
 ⟨List.Pairwise.nil, List.Pairwise.nil, h, fun x h => (by cases h), fun x h => (by cases h), fun x h => (by cases h), fun x => by simp, by simp, rfl⟩
theorem ND.key {l : List KT} (h : ND l) {x y : KT} (hx : x ∈ l) (hy : y ∈ l) (e : x.1 = y.1) : x = y := by
 induction l with
 | nil => cases hx
 | cons z r ih =>
  obtain ⟨h1, h2⟩ := List.pairwise_cons.1 h
  rcases List.mem_cons.1 hx with e1 | e1 <;> rcases List.mem_cons.1 hy with e2 | e2
  ·rw [e1, e2]
  ·subst e1; exact absurd e (h1 y e2)
  ·subst e2; exact absurd e.symm (h1 x e1)
  ·exact ih h2 e1 e2
theorem Part.step {l : List KT} {now : Int} {ds l' : List KT} (h : Part l now ds l') {x : KT} (hx : x ∈ l') (hm : ∀ y ∈ l', lekt x y) (hn : x.2 ≤ now) : Part l now (ds ++ [x]) (delL l' x.1) := by
 refine ⟨?_, ?_, h.nd'.del _, ?_, ?_, ?_, ?_, ?_, ?_⟩
 ·rw [List.pairwise_append]
  exact ⟨h.sorted, by simp, fun y hy z hz => by rw [List.mem_singleton.1 hz]; exact h.le y hy x hx⟩
 ·unfold ND
  rw [List.pairwise_append]
  exact ⟨h.nd, by simp, fun y hy z hz => by rw [List.mem_singleton.1 hz]; exact h.ne y hy x hx⟩
 ·intro y hy z hz
  have hz' := (mem_delL.1 hz).1
  rcases List.mem_append.1 hy with e | e
  ·exact h.le y e z hz'
  ·rw [List.mem_singleton.1 e]; exact hm z hz'
 ·intro y hy z hz
  have hz' := mem_delL.1 hz
  rcases List.mem_append.1 hy with e | e
  ·exact h.ne y e z hz'.1
  ·rw [List.mem_singleton.1 e]; exact hz'.2.symm
 ·intro y hy
  rcases List.mem_append.1 hy with e | e
  ·exact h.due y e
  ·rw [List.mem_singleton.1 e]; exact hn
 ·intro y
  rw [h.mem y, List.mem_append, List.mem_singleton, mem_delL]
  constructor
  ·rintro (e | e)
   ·exact .inl (.inl e)
   ·by_cases hk : y.1 = x.1
    ·exact .inl (.inr (h.nd'.key e hx hk))
    ·exact .inr ⟨e, hk⟩
  ·rintro ((e | e) | e)
   ·exact .inl e
   ·exact .inr (e ▸ hx)
   ·exact .inr e.1
 ·have := delL_length (t := x.2) h.nd' hx
  have := h.len
  rw [List.length_append, List.length_singleton]
  omega
 ·rw [← h.rest]
  unfold restL delL
  rw [List.filter_filter]
  apply List.filter_congr
  intro y hy
  by_cases hk : y.1 = x.1
  ·have := h.nd'.key hy hx hk
   subst this
   simp; omega
  ·simp [hk]
theorem Part.done {l : List KT} {now : Int} {ds l' : List KT} (h : Part l now ds l') (hx : ∀ y ∈ l', now < y.2) : DueOf l now ds ∧ l' = restL l now := by
 have hr : l' = restL l now := by
  rw [← h.rest]
  unfold restL
  rw [List.filter_eq_self.2]
  intro y hy
  simpa using hx y hy
 refine ⟨⟨h.sorted, h.nd, fun x => ⟨fun hd => ⟨(h.mem x).2 (.inl hd), h.due x hd⟩, fun ⟨h1, h2⟩ => ?_⟩, by rw [← hr]; exact h.len⟩, hr⟩
 rcases (h.mem x).1 h1 with e | e
 ·exact e
 ·have := hx x e; omega
def keysV (ds : List KT) : List Value := ds.map (fun x => Value.int .i64 x.1)
theorem info_intT : (Tryz.prog.info? 3).map (fun i => (i.zero, i.size, i.bytes)) = some (some (.int .i64 0), 1, 8) := by kernel_rfl
theorem u_intsT : Tryz.prog.underlying 37 = some (.slice 3) := by kernel_rfl
def sliceLen : Value → Nat
 | .slice _ n _ => n
 | _ => 0
theorem Que.lt {q : Nat} {l : List KT} {F : Nat → Prop} {w : World} (h : Que q l F w) : q < w.heap.size := by
 obtain ⟨n, a, v, mb, F', h1, h2, h3⟩ := h
 exact h1.arr.lt q h1.arr.fq
theorem Que.nd {q : Nat} {l : List KT} {F : Nat → Prop} {w : World} (h : Que q l F w) : ND l := by
 obtain ⟨n, a, v, mb, F', h1, h2, h3⟩ := h
 exact h2.nd
structure DueSt (w : World) (q : Nat) (F : Nat → Prop) (l : List KT) (now : Int) (ds l' : List KT) (v : Value) (wr : World) : Prop where
 que : Que q l' F wr
 keep : Keep F w wr
 own : wr.ownsRow w.heap.size 3 1 v ds.length (keysV ds)
 part : Part l now ds l'
theorem tdue_calls {q : Nat} {l : List KT} {F : Nat → Prop} {w : World} (h : Que q l F w) (hF : ∀ k, F k → k < w.heap.size) (now : Int) :
    Calls Tryz.prog 76 #[.pointer (some ⟨q, 0, none⟩), .int .i64 now] w fun e w' => ∃ ds A c, e = .returned (.slice A ds.length c) ∧ DueOf l now ds ∧ Que q (restL l now) F w' ∧ Keep F w w' ∧ w'.ownsRow w.heap.size 3 1 (.slice A ds.length c) ds.length (keysV ds) := by
 have hfew := h.few
 have HS : Hid (DueSt w q F l now [] l (.slice none 0 0) w) := ⟨h, Keep.refl _ _, World.ownsRow_nil _ _ _ _, Part.start h.nd now⟩
 have HF := LH hF
 clear h hF
 go_enter Tryz.func76, Tryz.ntmps76
 go_wp2
 go_loopw [5] (fun v wr => ∃ ds l' A c, v = .slice A ds.length c ∧ Hid (DueSt w q F l now ds l' (.slice A ds.length c) wr)) (fun v _ => l.length - sliceLen v)
 case atStart => exact ⟨[], l, none, 0, rfl, HS⟩
 case round =>
  clear HS
  obtain ⟨ds, l', A, c, rfl, HS⟩ := hrel
  by_cases hnil : l' = []
  ·subst hnil
   go_wp2_with fail
   refine (tnext_no HS.out.que).mono ?_
   rintro e w' ⟨rfl, rfl⟩
   go_wp2
   go_ret
   obtain ⟨h1, h2⟩ := HS.out.part.done (fun y hy => by cases hy)
   have hq := HS.out.que
   rw [h2] at hq
   exact ⟨ds, A, c, rfl, h1, hq, HS.out.keep, HS.out.own⟩
  ·go_wp2_with fail
   refine (tnext_yes HS.out.que hnil).mono ?_
   rintro e w2 ⟨x, rfl, hg, hx, hm, hok⟩
   have HS2 : Hid (DueSt w q F l now ds l' (.slice A ds.length c) w2) := ⟨HS.out.que.grow hg, HS.out.keep.grow hg, own_keep HS.out.own hg (fun _ _ h => h), HS.out.part⟩
   have Hm := LH (And.intro hx hm)
   have Hok := LH hok
   clear hg hx hm HS hok
   by_cases hn : now < x.2
   ·go_wp2
    go_ret
    obtain ⟨h1, h2⟩ := HS2.out.part.done (fun y hy => by
     have := Hm.out.2 y hy
     unfold lekt at this
     omega)
    have hq := HS2.out.que
    rw [h2] at hq
    exact ⟨ds, A, c, rfl, h1, hq, HS2.out.keep, HS2.out.own⟩
   ·go_wp2_with fail
    refine (tdrop_calls HS2.out.que x.1 Hok.out).mono ?_
    rintro e w3 ⟨rfl, hQ3, hK3⟩
    have hlen := HS2.out.part.len
    have hl0 : 0 < l'.length := List.length_pos_iff.2 hnil
    have hown3 := own_keep HS2.out.own hK3 (fun k hk hF => by
     have := (HS2.out.own.lt k hk).1
     have := HF.out k hF
     omega)
    have Hown3 := LH (own_keep hown3 ((Keep.refl NoB w3).alloc (.cells #[.int .i64 x.1] 3)) (fun _ _ h => h))
    have HK3 := LH (HS2.out.keep.trans hK3 (fun i hi => .inl hi))
    have HQ3 := LH hQ3
    have hsz := HK3.out.size
    clear hown3 hQ3 hK3
    go_wp2_with (at_builtin; refine wpList_app _ rfl _ _ 37 37 rfl w.heap.size 3 (.int .i64 0) 1 8 u_intsT info_intT rfl (.slice A ds.length c) ds.length (keysV ds) rfl (.slice (some ⟨w3.heap.size, 0, none⟩) 1 1) 1 [.int .i64 x.1] rfl ?_ (by exact Hown3.out) (by exact Src.ofSlice _ u_intsT ⟨w3.heap.size, 0, none⟩ 1 1 _ rfl (World.news_of_block (cs := #[.int .i64 x.1]) (t := 3) (fr := (0, 0)) (heap_alloc_new w3 _)) (by simp [Value.oneCell'])) (by simp only [maxLen]; omega) (by omega) (by simp; omega); intro v4 w4 hap; refine Hid.out ?_)
    refine LH ?_
    have hk4 : Keep (fun k => w.heap.size ≤ k) w3 w4 := ((Keep.refl (fun k => w.heap.size ≤ k) w3).alloc _).grown hap.grew (fun k hk => .inl (Hown3.out.lt k hk).1)
    have hdis : ∀ k, F k → ¬ (w.heap.size ≤ k) := fun k hk h2 => by have := HF.out k hk; omega
    have e1 : (ds ++ [x]).length = ds.length + 1 := by simp
    have e2 : keysV (ds ++ [x]) = keysV ds ++ [.int .i64 x.1] := by simp [keysV]
    have HS4 : Hid (DueSt w q F l now (ds ++ [x]) (delL l' x.1) v4 w4) := ⟨HQ3.out.keep hk4 hdis, HK3.out.trans hk4 (fun i hi => .inr hi), by rw [e1, e2]; exact hap.own, HS2.out.part.step Hm.out.1 Hm.out.2 (by omega)⟩
    obtain ⟨A4, c4, rfl, _⟩ := own_slice hap.own
    clear hap hk4
    rw [← e1] at HS4 ⊢
    go_wp2
    go_roundw
    case rel => exact ⟨ds ++ [x], _, A4, c4, rfl, HS4⟩
    case measure => simp [sliceLen]; omega
theorem Que.mono {q : Nat} {l : List KT} {F G : Nat → Prop} {w : World} (h : Que q l F w) (hG : ∀ k, F k → G k) : Que q l G w := by
 obtain ⟨n, a, v, mb, F', h1, h2, h3⟩ := h
 exact ⟨n, a, v, mb, F', h1, h2, fun k hk => hG k (h3 k hk)⟩
theorem Que.tight {q : Nat} {l : List KT} {F : Nat → Prop} {w : World} (h : Que q l F w) : ∃ F0, Que q l F0 w ∧ (∀ k, F0 k → F k) ∧ ∀ k, F0 k → k < w.heap.size := by
 obtain ⟨n, a, v, mb, F', h1, h2, h3⟩ := h
 refine ⟨fun k => F' k ∨ k = mb, ⟨n, a, v, mb, F', h1, h2, fun k hk => hk⟩, h3, fun k hk => ?_⟩
 rcases hk with e | e
 ·exact h1.arr.lt k e
 ·obtain ⟨D, d1, _⟩ := h1.map
  rw [e]; exact d1.lt
structure TSt (W : World) (q : Nat) (l : List KT) (F : Nat → Prop) (w : World) : Prop where
 que : Que q l F w
 ge : ∀ k, F k → W.heap.size ≤ k
 lt : ∀ k, F k → k < w.heap.size
 grow : Grow W w
theorem TSt.keep {W : World} {q : Nat} {l : List KT} {F S : Nat → Prop} {w w' : World} (h : TSt W q l F w) (hk : Keep S w w') (hS : ∀ k, F k → ¬ S k) (hg : ∀ k, S k → W.heap.size ≤ k) : TSt W q l F w' :=
 ⟨h.que.keep hk hS, h.ge, fun k hF => Nat.lt_of_lt_of_le (h.lt k hF) hk.size, ((h.grow.mono (fun _ h => h.elim)).trans hk (fun i hi => .inl hi) : Keep S W w').new hg⟩
theorem TSt.next {W : World} {q : Nat} {l l2 : List KT} {F F2 : Nat → Prop} {w w' : World} (h : TSt W q l F w) (hQ : Que q l2 F2 w') (hK : Keep F w w') (hF : ∀ k, F2 k → F k ∨ w.heap.size ≤ k) : ∃ F3, TSt W q l2 F3 w' ∧ ∀ k, F3 k → F k ∨ w.heap.size ≤ k := by
 obtain ⟨F3, h1, h2, h3⟩ := hQ.tight
 refine ⟨F3, ⟨h1, fun k hk => ?_, h3, ((h.grow.mono (fun _ h => h.elim)).trans hK (fun i hi => .inl hi) : Keep F W w').new h.ge⟩, fun k hk => hF k (h2 k hk)⟩
 rcases hF k (h2 k hk) with e | e
 ·exact h.ge k e
 ·exact Nat.le_trans h.grow.size e
theorem okI_of {k : Int} (h1 : -9223372036854775808 ≤ k) (h2 : k ≤ 9223372036854775807) : okI k := by
 simp [okI, Lit.wf, show IntKind.i64.min = -9223372036854775808 from rfl, show IntKind.i64.max = 9223372036854775807 from rfl, h1, h2]
end Go.Proofs.YtfkcpaahdlkcdaaGreat

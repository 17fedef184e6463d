import Derived.Test.YtimpnbkincgbmaaTmJ
set_option linter.unusedSimpArgs false
set_option linter.unusedVariables false
namespace Go.Proofs.Ytimpnbkincgbmaa
open Go.RowKit

theorem HeapN.change {a b : Nat → It} {n i : Nat} (h : HeapN a n) (hb : ∀ k, k ≠ i → b k = a k) : DnI b n i i := by
  refine ⟨fun k h0 hk e1 e2 => ?_, fun k h0 hk e1 e2 => ?_, fun e => absurd rfl e, Nat.le_refl _⟩
  · rw [hb k e1, hb _ e2]; exact h k h0 hk
  · rw [hb k (by omega), hb _ (by omega)]
    have h1 := h k h0 hk
    rw [e1] at h1
    exact It.le_trans (h i e2 (by omega)) h1
theorem HeapN.swapped {a : Nat → It} {m i : Nat} (h : HeapN a (m + 1)) : DnI (swp a i m) m i i := by
  refine ⟨fun k h0 hk e1 e2 => ?_, fun k h0 hk e1 e2 => ?_, fun e => absurd rfl e, Nat.le_refl _⟩
  · rw [show swp a i m k = a k from by unfold swp; rw [if_neg e1, if_neg (by omega)], show swp a i m ((k - 1) / 2) = a ((k - 1) / 2) from by unfold swp; rw [if_neg e2, if_neg (by omega)]]
    exact h k h0 (by omega)
  · rw [show swp a i m k = a k from by unfold swp; rw [if_neg (by omega), if_neg (by omega)], show swp a i m ((i - 1) / 2) = a ((i - 1) / 2) from by unfold swp; rw [if_neg (by omega), if_neg (by omega)]]
    have h1 := h k h0 (by omega)
    rw [e1] at h1
    exact It.le_trans (h i e2 (by omega)) h1
theorem HeapN.pushed {a b : Nat → It} {n : Nat} (h : HeapN a n) (hb : ∀ k, k ≠ n → b k = a k) : UpI b (n + 1) n := by
  refine ⟨fun k h0 hk e1 => ?_, fun k h0 hk e1 e2 => by omega⟩
  rw [hb k e1, hb _ (by omega)]
  exact h k h0 (by omega)

set_option maxRecDepth 100000 in
theorem fix_calls (q n : Nat) (a : Nat → It) (v mv : Value) (F : Nat → Prop) (w : World) (h : Arr q n a v mv F w) (i : Nat) (hi : i < n) (hD : DnI a n i i) :
    Calls Try.prog 44 #[.iface 98 (.pointer (some ⟨q, 0, none⟩)), .int .i64 i] w fun e w' => e = .returned (.tuple #[]) ∧ ∃ a', Hp q n n a a' v mv F w w' ∧ HeapN a' n := by
  obtain ⟨A, c, rfl⟩ := h.slice
  have hm := meth_len q A n c w h.cell0
  have H := Lib.hid h
  have HD := Lib.hid hD
  clear h hD
  go_enter Try.func44, Try.ntmps44
  go_wp2_with fail
  refine (len_calls2 A n c w).mono ?_
  rintro e w' ⟨rfl, rfl⟩
  go_wp2_with fail
  refine (down_calls q n n a _ mv F w H.out (Nat.le_refl _) i hi HD.out).mono ?_
  rintro e w2 ⟨x, a2, rfl, hp, h1, h2⟩
  have HP := Lib.hid hp
  clear hp hm
  by_cases hx : i < x
  · have h1' := Lib.hid (h1 hx)
    clear h1 h2
    go_wp2
    go_end0
    exact ⟨rfl, a2, HP.out, h1'.out⟩
  · have h2' := Lib.hid (h2 hx)
    clear h1 h2
    go_wp2_with fail
    refine (up_calls q n n a2 _ mv F w2 HP.out.arr (Nat.le_refl _) i hi h2'.out).mono ?_
    rintro e w3 ⟨rfl, a3, hp3, h3⟩
    have HP3 : Hid (Hp q n n a a3 (.slice A n c) mv F w w3) := ⟨hp3.arr, HP.out.same.trans hp3.same, HP.out.keep.trans hp3.keep (fun i hi => .inl hi)⟩
    clear hp3
    go_wp2
    go_end0
    exact ⟨rfl, a3, HP3.out, h3⟩

set_option maxRecDepth 100000 in
theorem heappush_calls (q n : Nat) (a : Nat → It) (v mv : Value) (F : Nat → Prop) (w : World) (h : Arr q n a v mv F w) (hH : HeapN a n) (x : It) (z : Int) (hx : w.heap[x.b]? = some (.cells #[.int .i64 x.k, .int .i64 x.t, .int .i64 z] 96 (0, 0))) (hF : ¬ F x.b) (hn : n < 1000) :
    Calls Try.prog 45 #[.iface 98 (.pointer (some ⟨q, 0, none⟩)), .iface 94 (.pointer (some ⟨x.b, 0, none⟩))] w fun e w' => e = .returned (.tuple #[]) ∧ ∃ a' v' F', Arr q (n + 1) a' v' mv F' w' ∧ HeapN a' (n + 1) ∧ Same (fun i => if i = n then x else a i) a' (n + 1) ∧ Keep (fun k => F k ∨ k = x.b) w w' ∧ ∀ k, F' k → F k ∨ k = x.b ∨ w.heap.size ≤ k := by
  have hm := meth_push q w
  have H := Lib.hid h
  have HH := Lib.hid hH
  have HX := Lib.hid hx
  clear h hH hx
  go_enter Try.func45, Try.ntmps45
  go_wp2_with fail
  refine (hpush_calls q n a v mv F w H.out x z HX.out hF hn).mono ?_
  rintro e w2 ⟨rfl, v2, F2, h2, hk2, hF2⟩
  obtain ⟨A, c, rfl⟩ := h2.slice
  have hm2 := meth_len q A (n + 1) c w2 h2.cell0
  have H2 := Lib.hid h2
  have HK2 := Lib.hid hk2
  have HF2 := Lib.hid hF2
  have hw : IntKind.i64.wrap (((n + 1 : Nat) : Int) - 1) = (n : Int) := by rw [show (((n + 1 : Nat) : Int) - 1) = (n : Int) from by omega]; exact IntWalk.i64_in _ (by omega)
  clear h2 hk2 hF2 hm
  go_wp2_with fail
  refine (len_calls2 A (n + 1) c w2).mono ?_
  rintro e w3 ⟨rfl, rfl⟩
  go_wp2_with fail
  refine (up_calls q (n + 1) (n + 1) _ _ mv F2 w2 H2.out (Nat.le_refl _) n (by omega) (HH.out.pushed (fun k hk => by simp [hk]))).mono ?_
  rintro e w3 ⟨rfl, a3, hp3, h3⟩
  have HP3 := Lib.hid hp3
  clear hp3
  go_wp2
  go_end0
  have hsz := HK2.out.size
  exact ⟨rfl, a3, _, F2, HP3.out.arr, h3, HP3.out.same, HK2.out.trans HP3.out.keep (fun k hk => (HF2.out k hk).elim (fun h => .inl (.inl h)) (fun h => h.elim (fun h => .inl (.inr h)) .inr)), HF2.out⟩

set_option maxRecDepth 100000 in
theorem remove_calls (q m : Nat) (a : Nat → It) (v mv : Value) (F : Nat → Prop) (w : World) (h : Arr q (m + 1) a v mv F w) (hH : HeapN a (m + 1)) (i : Nat) (hi : i ≤ m) :
    Calls Try.prog 46 #[.iface 98 (.pointer (some ⟨q, 0, none⟩)), .int .i64 i] w fun e w' => ∃ x a' v', e = .returned x ∧ Arr q m a' v' mv F w' ∧ HeapN a' m ∧ Same (swp a i m) a' m ∧ Keep F w w' := by
  obtain ⟨A, c, rfl⟩ := h.slice
  have hfew := h.few
  have hm := meth_len q A (m + 1) c w h.cell0
  have hm2 := meth_swap q A (m + 1) c w h.cell0
  have H := Lib.hid h
  have HH := Lib.hid hH
  have hw : IntKind.i64.wrap (((m + 1 : Nat) : Int) - 1) = (m : Int) := by rw [show (((m + 1 : Nat) : Int) - 1) = (m : Int) from by omega]; exact IntWalk.i64_in _ (by omega)
  clear h hH
  by_cases him : i = m
  · subst him
    have hp := meth_pop q w
    have hb : ((i : Int) != (i : Int)) = false := by simp
    go_enter Try.func46, Try.ntmps46
    go_wp2_with fail
    refine (len_calls2 A (i + 1) c w).mono ?_
    rintro e w3 ⟨rfl, rfl⟩
    go_wp2_with fail
    refine (pop_calls q i a _ mv F w H.out).mono ?_
    rintro e w2 ⟨x, v', rfl, h2, hk⟩
    have H2 := Lib.hid h2
    clear h2
    go_wp2
    go_ret
    have e : swp a i i = a := by funext k; by_cases h : k = i <;> simp [swp, h]
    exact ⟨_, a, v', rfl, H2.out, fun k h0 hk => HH.out k h0 (by omega), by rw [e]; exact Same.refl _ _, hk⟩
  · have hne : ((m : Int) != (i : Int)) = true := by simp; omega
    go_enter Try.func46, Try.ntmps46
    go_wp2_with fail
    refine (len_calls2 A (m + 1) c w).mono ?_
    rintro e w3 ⟨rfl, rfl⟩
    go_wp2_with fail
    refine (swap_calls q (m + 1) a _ mv F w H.out i m (by omega) (by omega) him).mono ?_
    rintro e w2 ⟨rfl, h2, hk2⟩
    have H2 := Lib.hid h2
    have HK2 := Lib.hid hk2
    clear h2 hk2 hm hm2
    go_wp2_with fail
    refine (down_calls q (m + 1) m (swp a i m) _ mv F w2 H2.out (by omega) i (by omega) HH.out.swapped).mono ?_
    rintro e w3 ⟨x, a3, rfl, hp, h1, h2⟩
    have HP := Lib.hid hp
    have HK3 := Lib.hid (HK2.out.trans hp.keep (fun i hi => .inl hi))
    clear hp
    by_cases hx : i < x
    · have h1' := Lib.hid (h1 hx)
      have hp4 := meth_pop q w3
      clear h1 h2
      go_wp2_with fail
      refine (pop_calls q m a3 _ mv F w3 HP.out.arr).mono ?_
      rintro e w4 ⟨x4, v4, rfl, h4, hk4⟩
      have H4 := Lib.hid h4
      clear h4
      go_wp2
      go_ret
      exact ⟨_, a3, v4, rfl, H4.out, h1'.out, HP.out.same, HK3.out.trans hk4 (fun i hi => .inl hi)⟩
    · have h2' := Lib.hid (h2 hx)
      clear h1 h2
      go_wp2_with fail
      refine (up_calls q (m + 1) m a3 _ mv F w3 HP.out.arr (by omega) i (by omega) h2'.out).mono ?_
      rintro e w4 ⟨rfl, a4, hp4, h4⟩
      have HP4 := Lib.hid hp4
      have HK4 := Lib.hid (HK3.out.trans hp4.keep (fun i hi => .inl hi))
      have HS4 := Lib.hid (HP.out.same.trans hp4.same)
      have h4' := Lib.hid h4
      have hp5 := meth_pop q w4
      clear hp4 h4
      go_wp2_with fail
      refine (pop_calls q m a4 _ mv F w4 HP4.out.arr).mono ?_
      rintro e w5 ⟨x5, v5, rfl, h5, hk5⟩
      have H5 := Lib.hid h5
      clear h5
      go_wp2
      go_ret
      exact ⟨_, a4, v5, rfl, H5.out, h4'.out, HS4.out, HK4.out.trans hk5 (fun i hi => .inl hi)⟩
end Go.Proofs.Ytimpnbkincgbmaa

import Derived.Test.YtimpnbkincgbmaaTmC
/-! Heaps, plainly. -/
set_option linter.unusedSimpArgs false
set_option linter.unusedVariables false
namespace Go.Proofs.Ytimpnbkincgbmaa

def It.le (x y : It) : Prop := x.t < y.t ∨ x.t = y.t ∧ x.k ≤ y.k
theorem It.le_trans {x y z : It} (h : x.le y) (k : y.le z) : x.le z := by unfold It.le at *; omega
theorem It.le_of_less {x y : It} (h : x.less y = true) : x.le y := by
  have := of_decide_eq_true h
  unfold It.le; omega
theorem It.le_of_not {x y : It} (h : x.less y = false) : y.le x := by
  have := of_decide_eq_false h
  unfold It.le; omega
theorem It.le_refl (x : It) : x.le x := by unfold It.le; omega

def HeapN (a : Nat → It) (n : Nat) : Prop := ∀ k, 0 < k → k < n → (a ((k - 1) / 2)).le (a k)
structure UpI (a : Nat → It) (n j : Nat) : Prop where
  u1 : ∀ k, 0 < k → k < n → k ≠ j → (a ((k - 1) / 2)).le (a k)
  u2 : ∀ k, 0 < k → k < n → (k - 1) / 2 = j → 0 < j → (a ((j - 1) / 2)).le (a k)
structure DnI (a : Nat → It) (n i0 i : Nat) : Prop where
  d1 : ∀ k, 0 < k → k < n → k ≠ i → (k - 1) / 2 ≠ i → (a ((k - 1) / 2)).le (a k)
  d2 : ∀ k, 0 < k → k < n → (k - 1) / 2 = i → 0 < i → (a ((i - 1) / 2)).le (a k)
  d3 : i ≠ i0 → 0 < i ∧ (a ((i - 1) / 2)).le (a i)
  ge : i0 ≤ i

theorem UpI.zero {a : Nat → It} {n : Nat} (h : UpI a n 0) : HeapN a n := fun k h0 hk => h.u1 k h0 hk (by omega)
theorem UpI.stop {a : Nat → It} {n j : Nat} (h : UpI a n j) (hl : (a ((j - 1) / 2)).le (a j)) : HeapN a n := fun k h0 hk => by
  by_cases e : k = j
  · subst e; exact hl
  · exact h.u1 k h0 hk e
theorem UpI.step {a : Nat → It} {n j : Nat} (h : UpI a n j) (hj : 0 < j) (hn : j < n) (hl : (a j).le (a ((j - 1) / 2))) : UpI (swp a ((j - 1) / 2) j) n ((j - 1) / 2) := by
  have hi : (j - 1) / 2 < j := by omega
  constructor
  · intro k h0 hk hne
    by_cases e : k = j
    · subst e
      rw [show swp a ((k - 1) / 2) k ((k - 1) / 2) = a k from by simp [swp], show swp a ((k - 1) / 2) k k = a ((k - 1) / 2) from by simp [swp]; omega]
      exact hl
    · rw [show swp a ((j - 1) / 2) j k = a k from by simp [swp, e, hne]]
      by_cases e1 : (k - 1) / 2 = j
      · rw [e1, show swp a ((j - 1) / 2) j j = a ((j - 1) / 2) from by simp [swp]; omega]
        exact h.u2 k h0 hk e1 hj
      · by_cases e2 : (k - 1) / 2 = (j - 1) / 2
        · rw [e2, show swp a ((j - 1) / 2) j ((j - 1) / 2) = a j from by simp [swp]]
          have := h.u1 k h0 hk e
          rw [e2] at this
          exact It.le_trans hl this
        · rw [show swp a ((j - 1) / 2) j ((k - 1) / 2) = a ((k - 1) / 2) from by simp [swp, e1, e2]]
          exact h.u1 k h0 hk e
  · intro k h0 hk he hp
    have e1 : swp a ((j - 1) / 2) j (((j - 1) / 2 - 1) / 2) = a (((j - 1) / 2 - 1) / 2) := by
      unfold swp
      rw [if_neg (by omega), if_neg (by omega)]
    rw [e1]
    have h2 := h.u1 ((j - 1) / 2) hp (by omega) (by omega)
    by_cases e : k = j
    · subst e
      rw [show swp a ((k - 1) / 2) k k = a ((k - 1) / 2) from by simp [swp]; omega]
      exact h2
    · rw [show swp a ((j - 1) / 2) j k = a k from by unfold swp; rw [if_neg (by omega), if_neg e]]
      have := h.u1 k h0 hk e
      rw [he] at this
      exact It.le_trans h2 this

theorem DnI.done {a : Nat → It} {n i0 i : Nat} (h : DnI a n i0 i) (hx : ∀ k, 0 < k → k < n → (k - 1) / 2 = i → (a i).le (a k)) (hne : i ≠ i0) : HeapN a n := fun k h0 hk => by
  by_cases e : k = i
  · subst e; exact (h.d3 hne).2
  · by_cases e2 : (k - 1) / 2 = i
    · rw [e2]; exact hx k h0 hk e2
    · exact h.d1 k h0 hk e e2
theorem DnI.same {a : Nat → It} {n i : Nat} (h : DnI a n i i) (hx : ∀ k, 0 < k → k < n → (k - 1) / 2 = i → (a i).le (a k)) : UpI a n i := by
  constructor
  · intro k h0 hk e
    by_cases e2 : (k - 1) / 2 = i
    · rw [e2]; exact hx k h0 hk e2
    · exact h.d1 k h0 hk e e2
  · exact h.d2
theorem DnI.step {a : Nat → It} {n i0 i j : Nat} (h : DnI a n i0 i) (hj : (j - 1) / 2 = i) (h0j : 0 < j) (hjn : j < n) (hl : (a j).le (a i)) (hm : ∀ k, 0 < k → k < n → (k - 1) / 2 = i → (a j).le (a k)) : DnI (swp a i j) n i0 j := by
  have hij : i < j := by omega
  constructor
  · intro k h0 hk hne hp
    by_cases e : k = i
    · subst e
      rw [show swp a k j k = a j from by simp [swp], show swp a k j ((k - 1) / 2) = a ((k - 1) / 2) from by unfold swp; rw [if_neg (by omega), if_neg (by omega)]]
      exact h.d2 j h0j hjn hj h0
    · rw [show swp a i j k = a k from by simp [swp, e, hne]]
      by_cases e2 : (k - 1) / 2 = i
      · rw [e2, show swp a i j i = a j from by simp [swp]]
        exact hm k h0 hk e2
      · rw [show swp a i j ((k - 1) / 2) = a ((k - 1) / 2) from by simp [swp, e2, hp]]
        exact h.d1 k h0 hk e e2
  · intro k h0 hk he hp
    rw [hj, show swp a i j i = a j from by simp [swp], show swp a i j k = a k from by unfold swp; rw [if_neg (by omega), if_neg (by omega)]]
    have := h.d1 k h0 hk (by omega) (by omega)
    rw [he] at this
    exact this
  · intro _
    refine ⟨h0j, ?_⟩
    rw [hj, show swp a i j i = a j from by simp [swp], show swp a i j j = a i from by simp [swp]; omega]
    exact hl
  · have := h.ge
    omega

/-- The same items below n, and all the rest. -/
structure Same (a b : Nat → It) (n : Nat) : Prop where
  to : ∀ i, i < n → ∃ j, j < n ∧ b i = a j
  of : ∀ i, i < n → ∃ j, j < n ∧ a i = b j
  rest : ∀ i, n ≤ i → b i = a i
theorem Same.refl (a : Nat → It) (n : Nat) : Same a a n := ⟨fun i h => ⟨i, h, rfl⟩, fun i h => ⟨i, h, rfl⟩, fun _ _ => rfl⟩
theorem Same.trans {a b c : Nat → It} {n : Nat} (h : Same a b n) (k : Same b c n) : Same a c n := by
  refine ⟨fun i hi => ?_, fun i hi => ?_, fun i hi => (k.rest i hi).trans (h.rest i hi)⟩
  · obtain ⟨j, hj, e⟩ := k.to i hi
    obtain ⟨m, hm, e2⟩ := h.to j hj
    exact ⟨m, hm, e.trans e2⟩
  · obtain ⟨j, hj, e⟩ := h.of i hi
    obtain ⟨m, hm, e2⟩ := k.of j hj
    exact ⟨m, hm, e.trans e2⟩
theorem Same.swp (a : Nat → It) {n i j : Nat} (hi : i < n) (hj : j < n) : Same a (swp a i j) n := by
  refine ⟨fun k hk => ?_, fun k hk => ?_, fun k hk => ?_⟩
  · unfold Go.Proofs.Ytimpnbkincgbmaa.swp
    split
    · exact ⟨j, hj, rfl⟩
    · split
      · exact ⟨i, hi, rfl⟩
      · exact ⟨k, hk, rfl⟩
  · by_cases h1 : k = i
    · by_cases h2 : i = j
      · exact ⟨j, hj, by subst h2; simp [h1, Go.Proofs.Ytimpnbkincgbmaa.swp]⟩
      · exact ⟨j, hj, by simp [h1, Go.Proofs.Ytimpnbkincgbmaa.swp]; omega⟩
    · by_cases h2 : k = j
      · exact ⟨i, hi, by simp [h2, Go.Proofs.Ytimpnbkincgbmaa.swp]⟩
      · exact ⟨k, hk, by simp [h1, h2, Go.Proofs.Ytimpnbkincgbmaa.swp]⟩
  · unfold Go.Proofs.Ytimpnbkincgbmaa.swp
    rw [if_neg (by omega), if_neg (by omega)]
theorem Same.mono {a b : Nat → It} {n m : Nat} (h : Same a b n) (hm : n ≤ m) : Same a b m := by
  refine ⟨fun i hi => ?_, fun i hi => ?_, fun i hi => h.rest i (by omega)⟩
  · by_cases e : i < n
    · obtain ⟨j, hj, q⟩ := h.to i e
      exact ⟨j, by omega, q⟩
    · exact ⟨i, hi, h.rest i (by omega)⟩
  · by_cases e : i < n
    · obtain ⟨j, hj, q⟩ := h.of i e
      exact ⟨j, by omega, q⟩
    · exact ⟨i, hi, (h.rest i (by omega)).symm⟩
theorem HeapN.min {a : Nat → It} {n : Nat} (h : HeapN a n) : ∀ k, k < n → (a 0).le (a k) := by
  intro k
  induction k using Nat.strongRecOn with
  | ind k ih =>
    intro hk
    by_cases h0 : k = 0
    · subst h0; exact It.le_refl _
    · exact It.le_trans (ih ((k - 1) / 2) (by omega) (by omega)) (h k (by omega) hk)
end Go.Proofs.Ytimpnbkincgbmaa

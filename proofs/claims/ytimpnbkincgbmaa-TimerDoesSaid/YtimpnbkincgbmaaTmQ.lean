import Derived.Test.YtimpnbkincgbmaaTmP
set_option linter.unusedSimpArgs false
set_option linter.unusedVariables false
namespace Go.Proofs.Ytimpnbkincgbmaa
open Go.RowKit

theorem Que.mono {q : Nat} {l : List KT} {F G : Nat → Prop} {w : World} (h : Que q l F w) (hG : ∀ k, F k → G k) : Que q l G w := by
  obtain ⟨n, a, v, mb, F', h1, h2, h3⟩ := h
  exact ⟨n, a, v, mb, F', h1, h2, fun k hk => hG k (h3 k hk)⟩
theorem Que.tight {q : Nat} {l : List KT} {F : Nat → Prop} {w : World} (h : Que q l F w) : ∃ F0, Que q l F0 w ∧ (∀ k, F0 k → F k) ∧ ∀ k, F0 k → k < w.heap.size := by
  obtain ⟨n, a, v, mb, F', h1, h2, h3⟩ := h
  refine ⟨fun k => F' k ∨ k = mb, ⟨n, a, v, mb, F', h1, h2, fun k hk => hk⟩, h3, fun k hk => ?_⟩
  rcases hk with e | e
  · exact h1.arr.lt k e
  · obtain ⟨D, d1, _⟩ := h1.map
    rw [e]; exact d1.lt
theorem tdue_any {q : Nat} {l : List KT} {F : Nat → Prop} {w : World} (h : Que q l F w) (now : Int) :
    Calls Try.prog 28 #[.pointer (some ⟨q, 0, none⟩), .int .i64 now] w fun e w' => ∃ ds A c, e = .returned (.slice A ds.length c) ∧ DueOf l now ds ∧ Que q (restL l now) F w' ∧ Keep F w w' ∧ w'.ownsRow w.heap.size 3 1 (.slice A ds.length c) ds.length (keysV ds) := by
  obtain ⟨F0, h1, h2, h3⟩ := h.tight
  refine (tdue_calls h1 h3 now).mono ?_
  rintro e w' ⟨ds, A, c, rfl, g1, g2, g3, g4⟩
  exact ⟨ds, A, c, rfl, g1, g2.mono h2, g3.mono h2, g4⟩

/-- A queue that the call (which began in W) has made. -/
structure TSt (W : World) (q : Nat) (l : List KT) (F : Nat → Prop) (w : World) : Prop where
  que : Que q l F w
  ge : ∀ k, F k → W.heap.size ≤ k
  lt : ∀ k, F k → k < w.heap.size
  grow : Grow W w
theorem TSt.keep {W : World} {q : Nat} {l : List KT} {F S : Nat → Prop} {w w' : World} (h : TSt W q l F w) (hk : Keep S w w') (hS : ∀ k, F k → ¬ S k) (hg : ∀ k, S k → W.heap.size ≤ k) : TSt W q l F w' :=
  ⟨h.que.keep hk hS, h.ge, fun k hF => Nat.lt_of_lt_of_le (h.lt k hF) hk.size, ((h.grow.mono (fun _ h => h.elim)).trans hk (fun i hi => .inl hi) : Keep S W w').new hg⟩
theorem TSt.grow' {W : World} {q : Nat} {l : List KT} {F : Nat → Prop} {w w' : World} (h : TSt W q l F w) (hk : Grow w w') : TSt W q l F w' := h.keep hk (fun _ _ h => h) (fun _ h => h.elim)

theorem tst_new {W w : World} (hg : Grow W w) : Calls Try.prog 26 #[] w fun e w' => ∃ q F, e = .returned (.pointer (some ⟨q, 0, none⟩)) ∧ TSt W q [] F w' ∧ Grow w w' ∧ ∀ k, F k → w.heap.size ≤ k := by
  refine (tnew_calls w).mono ?_
  rintro e w' ⟨q, F, rfl, h1, h2, h3⟩
  exact ⟨q, F, rfl, ⟨h1, fun k hk => Nat.le_trans hg.size (h3 k hk).1, fun k hk => (h3 k hk).2, hg.grow h2⟩, h2, fun k hk => (h3 k hk).1⟩
theorem TSt.next {W : World} {q : Nat} {l l2 : List KT} {F F2 : Nat → Prop} {w w' : World} (h : TSt W q l F w) (hQ : Que q l2 F2 w') (hK : Keep F w w') (hF : ∀ k, F2 k → F k ∨ w.heap.size ≤ k) : ∃ F3, TSt W q l2 F3 w' ∧ ∀ k, F3 k → F k ∨ w.heap.size ≤ k := by
  obtain ⟨F3, h1, h2, h3⟩ := hQ.tight
  refine ⟨F3, ⟨h1, fun k hk => ?_, h3, ((h.grow.mono (fun _ h => h.elim)).trans hK (fun i hi => .inl hi) : Keep F W w').new h.ge⟩, fun k hk => hF k (h2 k hk)⟩
  rcases hF k (h2 k hk) with e | e
  · exact h.ge k e
  · exact Nat.le_trans h.grow.size e
theorem tst_set {W : World} {q : Nat} {l : List KT} {F : Nat → Prop} {w : World} (h : TSt W q l F w) (key : Int) (hk : okI key) (at_ : Int) :
    Calls Try.prog 27 #[.pointer (some ⟨q, 0, none⟩), .int .i64 key, .int .i64 at_] w fun e w' => e = .returned (.bool (okSet l key)) ∧ ∃ F2, TSt W q (rSet l key at_) F2 w' ∧ Keep F w w' ∧ ∀ k, F2 k → F k ∨ w.heap.size ≤ k := by
  refine (tset_calls h.que key hk at_).mono ?_
  rintro e w' ⟨rfl, F2, hQ, hK, hF⟩
  obtain ⟨F3, h1, h2⟩ := h.next hQ hK hF
  exact ⟨rfl, F3, h1, hK, h2⟩
theorem tst_drop {W : World} {q : Nat} {l : List KT} {F : Nat → Prop} {w : World} (h : TSt W q l F w) (key : Int) (hk : okI key) :
    Calls Try.prog 32 #[.pointer (some ⟨q, 0, none⟩), .int .i64 key] w fun e w' => e = .returned (.bool (hasL l key)) ∧ TSt W q (delL l key) F w' ∧ Keep F w w' := by
  refine (tdrop_calls h.que key hk).mono ?_
  rintro e w' ⟨rfl, hQ, hK⟩
  exact ⟨rfl, ⟨hQ, h.ge, fun k hF => Nat.lt_of_lt_of_le (h.lt k hF) hK.size, ((h.grow.mono (fun _ h => h.elim)).trans hK (fun i hi => .inl hi) : Keep F W w').new h.ge⟩, hK⟩
theorem tst_due {W : World} {q : Nat} {l : List KT} {F : Nat → Prop} {w : World} (h : TSt W q l F w) (now : Int) :
    Calls Try.prog 28 #[.pointer (some ⟨q, 0, none⟩), .int .i64 now] w fun e w' => ∃ ds A c, e = .returned (.slice A ds.length c) ∧ DueOf l now ds ∧ TSt W q (restL l now) F w' ∧ Keep F w w' ∧ w'.ownsRow w.heap.size 3 1 (.slice A ds.length c) ds.length (keysV ds) := by
  refine (tdue_any h.que now).mono ?_
  rintro e w' ⟨ds, A, c, rfl, g1, hQ, hK, g4⟩
  exact ⟨ds, A, c, rfl, g1, ⟨hQ, h.ge, fun k hF => Nat.lt_of_lt_of_le (h.lt k hF) hK.size, ((h.grow.mono (fun _ h => h.elim)).trans hK (fun i hi => .inl hi) : Keep F W w').new h.ge⟩, hK, g4⟩

theorem okI_of {k : Int} (h1 : -9223372036854775808 ≤ k) (h2 : k ≤ 9223372036854775807) : okI k := by
  simp [okI, Lit.wf, show IntKind.i64.min = -9223372036854775808 from rfl, show IntKind.i64.max = 9223372036854775807 from rfl, h1, h2]

set_option maxRecDepth 100000 in
theorem tknown_calls {W w : World} (hW : Grow W w) : Calls Try.prog 25 #[] w fun e w' => e = .returned (.bool true) ∧ Grow w w' := by
  go_enter Try.func25, Try.ntmps25
  go_wp2_with fail
  refine (tst_new (Keep.refl NoB w)).mono ?_
  rintro e w1 ⟨q, F, rfl, h1, _, _⟩
  have H1 := Lib.hid h1
  clear h1
  go_wp2_with fail
  refine (tst_set H1.out 1 (okI_of (by omega) (by omega)) 5).mono ?_
  rintro e w2 ⟨rfl, F2, h2, _, _⟩
  rw [show okSet [] 1 = true from by decide]
  rw [show rSet [] 1 5 = [(1, 5)] from by decide] at h2
  have H2 := Lib.hid h2
  clear h2
  go_wp2_with fail
  refine (tst_set H2.out 2 (okI_of (by omega) (by omega)) 3).mono ?_
  rintro e w3 ⟨rfl, F3, h3, _, _⟩
  rw [show okSet [(1, 5)] 2 = true from by decide]
  rw [show rSet [(1, 5)] 2 3 = [(1, 5), (2, 3)] from by decide] at h3
  have H3 := Lib.hid h3
  clear h3
  go_wp2_with fail
  refine (tst_due H3.out 4).mono ?_
  rintro e w4 ⟨ds, A, c, rfl, hd, h4, _, hown⟩
  have hds : ds = [(2, 3)] := hd.unique ⟨by simp, by simp [ND], fun x => by
    constructor
    · intro hx
      have : x = (2, 3) := by simpa using hx
      subst this
      simp
    · rintro ⟨hx, hle⟩
      have : x = (1, 5) ∨ x = (2, 3) := by simpa using hx
      rcases this with rfl | rfl
      · simp at hle
      · simp, by decide⟩
  subst hds
  rw [show restL [(1, 5), (2, 3)] 4 = [(1, 5)] from by decide] at h4
  have H4 := Lib.hid h4
  obtain ⟨r, c2, hv, _, _, hcs⟩ := own_cells hown (by simp)
  injection hv with hv1 hv2 hv3
  subst hv1
  subst hv3
  have hc := hcs 0 _ rfl
  simp only [List.length_singleton] at hc ⊢
  clear h4 hown hcs hd
  go_wp2_with fail
  refine (tlen_calls H4.out.que).mono ?_
  rintro e w5 ⟨rfl, rfl⟩
  go_wp2
  go_ret
  exact ⟨rfl, H4.out.grow⟩

set_option maxRecDepth 100000 in
theorem nil_calls (key at_ : Int) (W : World) : Calls Try.prog 13 #[.int .i64 key, .int .i64 at_] W fun e w' => e = .returned (.bool true) ∧ Grow W w' := by
  go_enter Try.func13, Try.ntmps13
  go_wp2_with fail
  refine (tset_nil key at_ W).mono ?_
  rintro e w' ⟨rfl, rfl⟩
  go_wp2_with fail
  refine (tat_nil key W).mono ?_
  rintro e w' ⟨rfl, rfl⟩
  go_wp2_with fail
  refine (tnext_nil W).mono ?_
  rintro e w' ⟨rfl, rfl⟩
  go_wp2_with fail
  refine (tknown_calls (Keep.refl NoB W)).mono ?_
  rintro e w2 ⟨rfl, h2⟩
  go_wp2_with fail
  refine (tdrop_nil key w2).mono ?_
  rintro e w' ⟨rfl, rfl⟩
  go_wp2_with fail
  refine (tdue_nil at_ w2).mono ?_
  rintro e w' ⟨rfl, rfl⟩
  go_wp2_with fail
  refine (tlen_nil w2).mono ?_
  rintro e w' ⟨rfl, rfl⟩
  go_wp2
  go_ret
  exact ⟨rfl, h2⟩
end Go.Proofs.Ytimpnbkincgbmaa

import Derived.Test.YtimpnbkincgbmaaNetF
set_option linter.unusedSimpArgs false
set_option linter.unusedVariables false
namespace Go.Proofs.Ytimpnbkincgbmaa
open Go.RowKit

theorem Net.lt {g : Nat} {l : List G} {F : Nat → Prop} {w : World} (h : Net g l F w) : ∀ k, F k → k < w.heap.size := by
  obtain ⟨v, vs, B, h⟩ := h
  exact h.lt
theorem Net.few {g : Nat} {l : List G} {F : Nat → Prop} {w : World} (h : Net g l F w) : l.length ≤ 1000 := by
  obtain ⟨v, vs, B, h⟩ := h
  exact h.few
theorem Net.b200 {g : Nat} {l : List G} {F : Nat → Prop} {w : World} (h : Net g l F w) (i : Nat) (hi : i < l.length) : l[i].2.length ≤ 200 := by
  obtain ⟨v, vs, B, h⟩ := h
  obtain ⟨_, _, _, h3, _⟩ := h.grams i l[i] (List.getElem?_eq_getElem hi)
  exact h3

theorem twice_nil (i : Int) (w : World) : Calls Try.prog 24 #[.pointer none, .int .i64 i] w fun e w' => e = .returned (.bool false) ∧ w = w' := by
  go_enter Try.func24, Try.ntmps24
  go_wp2_with fail
  refine (nat_nil i w).mono ?_
  rintro e w' ⟨rfl, rfl⟩
  go_wp2
  go_ret
  exact ⟨rfl, rfl⟩
theorem twice_no (g : Nat) (l : List G) (F : Nat → Prop) (i : Int) (w : World) (hN : Net g l F w) (hi : i < 0 ∨ l.length ≤ i) :
    Calls Try.prog 24 #[.pointer (some ⟨g, 0, none⟩), .int .i64 i] w fun e w' => e = .returned (.bool false) ∧ w = w' := by
  have HN := Lib.hid hN
  have Hi := Lib.hid hi
  clear hN hi
  go_enter Try.func24, Try.ntmps24
  go_wp2_with fail
  refine (nat_no g l F i w HN.out Hi.out).mono ?_
  rintro e w' ⟨rfl, rfl⟩
  go_wp2
  go_ret
  exact ⟨rfl, rfl⟩
set_option maxRecDepth 100000 in
theorem twice_full (g : Nat) (l : List G) (F : Nat → Prop) (i : Nat) (w : World) (hN : Net g l F w) (hi : i < l.length) (hf : 1000 ≤ l.length) :
    Calls Try.prog 24 #[.pointer (some ⟨g, 0, none⟩), .int .i64 i] w fun e w' => e = .returned (.bool false) ∧ Grow w w' := by
  have HN := Lib.hid hN
  have Hi := Lib.hid hi
  clear hN
  go_enter Try.func24, Try.ntmps24
  go_wp2_with fail
  refine (nat_yes g l F i w HN.out Hi.out).mono ?_
  rintro e w1 ⟨A, c, rfl, ho, h1⟩
  have Ho := Lib.hid ho
  clear ho
  go_wp2_with fail
  refine (push_no g l F w1 (HN.out.keep h1 (fun _ _ h => h)) _ _ _ _ (by omega)).mono ?_
  rintro e w2 ⟨rfl, rfl⟩
  go_wp2
  go_ret
  exact ⟨rfl, h1⟩
set_option maxRecDepth 100000 in
theorem twice_yes (g : Nat) (l : List G) (F : Nat → Prop) (i : Nat) (w : World) (hN : Net g l F w) (hi : i < l.length) (hf : l.length < 1000) (h0 : 0 ≤ l[i].1) (h01 : l[i].1 ≤ 1) :
    Calls Try.prog 24 #[.pointer (some ⟨g, 0, none⟩), .int .i64 i] w fun e w' => e = .returned (.bool true) ∧ ∃ F', Net g (l ++ [l[i]]) F' w' ∧ Keep F w w' ∧ (∀ k, F' k → F k ∨ w.heap.size ≤ k) := by
  have HN := Lib.hid hN
  have Hi := Lib.hid hi
  have H2 := Lib.hid (hN.b200 i hi)
  clear hN
  go_enter Try.func24, Try.ntmps24
  go_wp2_with fail
  refine (nat_yes g l F i w HN.out Hi.out).mono ?_
  rintro e w1 ⟨A, c, rfl, ho, h1⟩
  have Ho := Lib.hid ho
  clear ho
  go_wp2_with fail
  refine (push_yes g l F w1 (HN.out.keep h1 (fun _ _ h => h)) l[i].1 h0 h01 _ l[i].2 (SliceR.of_own Ho.out) H2.out hf).mono ?_
  rintro e w2 ⟨rfl, F', hN', h2, hF⟩
  have HN' := Lib.hid hN'
  clear hN'
  go_wp2
  go_ret
  exact ⟨rfl, F', HN'.out, (h1.mono (fun _ h => h.elim)).trans h2 (fun k hk => .inl hk), fun k hk => (hF k hk).imp id (fun h => Nat.le_trans h1.size h)⟩

theorem bend_nil (i : Int) (A : Option Addr) (n c : Nat) (w : World) : Calls Try.prog 17 #[.pointer none, .int .i64 i, .slice A n c] w fun e w' => e = .returned (.bool false) ∧ w = w' := by
  go_enter Try.func17, Try.ntmps17
  go_wp2
  go_ret
  exact ⟨rfl, rfl⟩
theorem bend_no (g : Nat) (l : List G) (F : Nat → Prop) (i : Int) (A : Option Addr) (n c : Nat) (w : World) (hN : Net g l F w) (hi : 200 < n ∨ i < 0 ∨ l.length ≤ i) :
    Calls Try.prog 17 #[.pointer (some ⟨g, 0, none⟩), .int .i64 i, .slice A n c] w fun e w' => e = .returned (.bool false) ∧ w = w' := by
  obtain ⟨v, vs, B, hN⟩ := hN
  obtain ⟨A2, m, rfl, _⟩ := own_slice hN.row
  have hc := cell0 hN.cell
  clear hN
  by_cases h2 : 200 < n
  · clear hi
    go_enter Try.func17, Try.ntmps17
    go_wp2
    go_ret
    exact ⟨rfl, rfl⟩
  · have Hi : Hid (i < 0 ∨ (l.length : Int) ≤ i) := Lib.hid (by omega)
    clear hi
    go_enter Try.func17, Try.ntmps17
    go_wp2_with fail
    refine (at_none g A2 l.length m i w hc Hi.out).mono ?_
    rintro e w' ⟨rfl, rfl⟩
    go_wp2
    go_ret
    exact ⟨rfl, rfl⟩

theorem GramsR.bend {l : List G} {vs : List Value} {B C : Nat → Prop} {w : World} (h : GramsR l vs B w) (hv : vs.length = l.length * 2) (i : Nat) (hi : i < l.length) (b : List Int) (bv : Value) (hb : b.length ≤ 200) (hf : Foot (SliceR 1 bv b.length (u8s b)) w C)
    (hB : ∀ k, B k → k < w.heap.size) : GramsR (l.set i (l[i].1, b)) (vs.set (i * 2 + 1) bv) (fun k => B k ∨ C k) w := fun j y hy => by
  have hlt : ∀ k, B k ∨ C k → k < w.heap.size := fun k hk => hk.elim (hB k) (hf.1 k)
  rw [List.getElem?_set] at hy
  split at hy
  · rename_i hij
    subst hij
    injection hy with hy
    subst hy
    obtain ⟨bv', h1, h2, h3, h4⟩ := h i l[i] (List.getElem?_eq_getElem hi)
    refine ⟨bv, ?_, ?_, hb, hf.mono hlt (fun k hk => .inr hk)⟩
    · rw [List.getElem?_set_ne (by omega)]; exact h1
    · rw [List.getElem?_set_self (by omega)]
  · rename_i hij
    obtain ⟨bv', h1, h2, h3, h4⟩ := h j y hy
    refine ⟨bv', ?_, ?_, h3, h4.mono hlt (fun k hk => .inl hk)⟩
    · rw [List.getElem?_set_ne (by omega)]; exact h1
    · rw [List.getElem?_set_ne (by omega)]; exact h2

theorem NetIs.bent {g : Nat} {l : List G} {F B : Nat → Prop} {w w1 : World} {r c : Nat} {vs : List Value} (hN : NetIs g l F w (.slice (some ⟨r, 0, none⟩) l.length c) vs B) {b : List Int} {bv : Value} (h1 : Grow w w1) (i : Nat) (hi : i < l.length)
    (ho : w1.ownsRow w.heap.size 5 1 bv b.length (u8s b)) (hlen : b.length ≤ 200) :
    ∃ F', Net g (l.set i (l[i].1, b)) F' (w1.setCell ⟨r, i * 2 + 1, none⟩ bv) ∧ Keep F w (w1.setCell ⟨r, i * 2 + 1, none⟩ bv) ∧ (∀ k, F' k → F k ∨ w.heap.size ≤ k) := by
  have hg := hN.lt g hN.fg
  have hr := hN.frow r rfl
  have hrl := hN.lt r hr.1
  have hbv : ∀ k, bv.ownBlock = some k → w.heap.size ≤ k ∧ k < w1.heap.size := fun k hk => ho.lt k hk
  have hs : Keep (fun k => k = r) w1 (w1.setCell ⟨r, i * 2 + 1, none⟩ bv) := (Keep.refl (fun k => k = r) w1).setCell (p := ⟨r, i * 2 + 1, none⟩) (.inl rfl) bv
  have hkf : Keep (fun k => k = r) w (w1.setCell ⟨r, i * 2 + 1, none⟩ bv) := (h1.mono (fun _ h => h.elim)).trans hs (fun k hk => .inl hk)
  have hfoot : Foot (SliceR 1 bv b.length (u8s b)) (w1.setCell ⟨r, i * 2 + 1, none⟩ bv) (fun k => bv.ownBlock = some k) := (Foot.of_own ho).keep hs (fun k hk h => by have := hbv k hk; omega)
  have hrow1 : w1.ownsRow 0 81 2 (.slice (some ⟨r, 0, none⟩) l.length c) l.length vs := own_keep hN.row h1 (fun _ _ h => h)
  refine ⟨fun k => (F k ∨ w.heap.size ≤ k) ∧ k < (w1.setCell ⟨r, i * 2 + 1, none⟩ bv).heap.size, ⟨.slice (some ⟨r, 0, none⟩) l.length c, vs.set (i * 2 + 1) bv, fun k => B k ∨ bv.ownBlock = some k, ⟨?_, ?_, ?_, ?_, ?_, ?_, ?_, fun k hk => hk.2⟩⟩, hkf.mono (fun k hk => hk ▸ hr.1), fun k hk => hk.1⟩
  · exact (hkf.block g hg (fun h => hr.2 h.symm)).trans hN.cell
  · rw [List.length_set]
    exact (hrow1.stored (i * 2 + 1) bv).1
  · exact GramsR.bend (hN.grams.keep hkf (fun k hk h => (hN.fB k hk).2.2 (by rw [h]; rfl))) hN.row.1 i hi b bv hlen hfoot (fun k hk => Nat.lt_of_lt_of_le (hN.lt k (hN.fB k hk).1) hkf.size)
  · rw [List.length_set]; exact hN.few
  · exact ⟨.inl hN.fg, Nat.lt_of_lt_of_le hg hkf.size⟩
  · intro k hk
    exact ⟨⟨.inl (hN.frow k hk).1, Nat.lt_of_lt_of_le (hN.lt k (hN.frow k hk).1) hkf.size⟩, (hN.frow k hk).2⟩
  · rintro k (hk | hk)
    · have h3 := hN.fB k hk
      exact ⟨⟨.inl h3.1, Nat.lt_of_lt_of_le (hN.lt k h3.1) hkf.size⟩, h3.2⟩
    · have h3 := hbv k hk
      refine ⟨⟨.inr h3.1, hfoot.1 k hk⟩, by omega, fun h => ?_⟩
      have : r = k := by simpa [Value.ownBlock] using h
      omega

set_option maxRecDepth 100000 in
theorem bend_yes (g : Nat) (l : List G) (F : Nat → Prop) (i : Nat) (v : Value) (b : List Int) (w : World) (hN : Net g l F w) (hi : i < l.length) (hb : SliceR 1 v b.length (u8s b) w) (hlen : b.length ≤ 200) :
    Calls Try.prog 17 #[.pointer (some ⟨g, 0, none⟩), .int .i64 i, v] w fun e w' => e = .returned (.bool true) ∧ ∃ F', Net g (l.set i (l[i].1, b)) F' w' ∧ Keep F w w' ∧ (∀ k, F' k → F k ∨ w.heap.size ≤ k) := by
  obtain ⟨rv, vs, B, hN⟩ := hN
  obtain ⟨r, c, A, n, rfl, hr, h2, h3, h4, h5⟩ := hN.get i hi
  obtain ⟨A2, c2, hv, hvc⟩ : ∃ A c, v = .slice A b.length c ∧ b.length ≤ c := by obtain ⟨A, c, e, hc, _⟩ := hb; exact ⟨A, c, e, hc⟩
  subst hv
  have hc := cell0 hN.cell
  have Hb := Lib.hid hb
  have HN := Lib.hid hN
  clear hN hb h2 h4 h5
  go_enter Try.func17, Try.ntmps17
  go_wp2_with fail
  refine (at_some g r 0 l.length c i w hc (by omega) (by omega)).mono ?_
  rintro e w' ⟨rfl, rfl⟩
  rw [natT]
  go_wp2_with fail
  refine (bclone_calls _ b _ Hb.out (by omega)).mono ?_
  rintro e w1 ⟨A3, c3, rfl, ho, h1⟩
  have h3' := h1.cell h3 (fun h => h)
  have hz : w1.frozen? ⟨r, i * 2 + 1, none⟩ = false := by
    have hrow := own_keep HN.out.row h1 (fun _ _ h => h)
    exact hrow.frozenAt _
  have Ho := Lib.hid ho
  clear ho h3
  go_wp2
  go_ret
  exact ⟨rfl, HN.out.bent h1 i hi Ho.out hlen⟩

/-- What Bend leaves. -/
def bendl (l : List G) (i : Nat) (b : List Int) : List G := if b.length ≤ 200 then l.set i ((l.getD i (0, [])).1, b) else l
theorem bendl_length (l : List G) (i : Nat) (b : List Int) : (bendl l i b).length = l.length := by unfold bendl; split <;> simp
theorem bend_any (g : Nat) (l : List G) (F : Nat → Prop) (i : Nat) (A : Option Addr) (c : Nat) (b : List Int) (w : World) (hN : Net g l F w) (hi : i < l.length) (hb : SliceR 1 (.slice A b.length c) b.length (u8s b) w) :
    Calls Try.prog 17 #[.pointer (some ⟨g, 0, none⟩), .int .i64 i, .slice A b.length c] w fun e w' => e = .returned (.bool (decide ((b.length : Int) ≤ 200))) ∧ ∃ F', Net g (bendl l i b) F' w' ∧ Keep F w w' ∧ (∀ k, F' k → F k ∨ w.heap.size ≤ k) := by
  by_cases hl : b.length ≤ 200
  · refine (bend_yes g l F i _ b w hN hi hb hl).mono ?_
    rintro e w' ⟨rfl, h⟩
    rw [show decide ((b.length : Int) ≤ 200) = true from decide_eq_true (by omega)]
    refine ⟨rfl, ?_⟩
    unfold bendl
    rw [if_pos hl, List.getD_eq_getElem?_getD, List.getElem?_eq_getElem hi]
    exact h
  · refine (bend_no g l F i A b.length c w hN (by omega)).mono ?_
    rintro e w' ⟨rfl, rfl⟩
    rw [show decide ((b.length : Int) ≤ 200) = false from decide_eq_false (by omega)]
    refine ⟨rfl, F, ?_, Keep.refl _ _, fun k hk => .inl hk⟩
    unfold bendl
    rw [if_neg hl]
    exact hN

set_option maxRecDepth 100000 in
theorem nlen_calls (g : Nat) (l : List G) (F : Nat → Prop) (w : World) (hN : Net g l F w) :
    Calls Try.prog 19 #[.pointer (some ⟨g, 0, none⟩)] w fun e w' => e = .returned (.int .i64 l.length) ∧ w = w' := by
  obtain ⟨rv, vs, B, hN⟩ := hN
  obtain ⟨A, n, rfl, _⟩ := own_slice hN.row
  exact len_calls g A l.length n w (cell0 hN.cell)

end Go.Proofs.Ytimpnbkincgbmaa

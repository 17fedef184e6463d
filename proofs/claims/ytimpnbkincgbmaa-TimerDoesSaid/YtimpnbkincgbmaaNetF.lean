import Derived.Test.YtimpnbkincgbmaaNetE
set_option linter.unusedSimpArgs false
set_option linter.unusedVariables false
namespace Go.Proofs.Ytimpnbkincgbmaa
open Go.RowKit

theorem GramsR.one {l : List G} {vs : List Value} {B : Nat → Prop} {w : World} (h : GramsR l vs B w) (hl : vs.length = l.length * 2) : ∀ u ∈ vs, u.oneCell' = true := by
  intro u hu
  obtain ⟨j, hj, rfl⟩ := List.mem_iff_getElem.1 hu
  have hi : j / 2 < l.length := by omega
  obtain ⟨bv, h1, h2, _, h4⟩ := h (j / 2) l[j / 2] (List.getElem?_eq_getElem hi)
  obtain ⟨A, c, rfl, _⟩ := h4.now
  rcases Nat.mod_two_eq_zero_or_one j with hm | hm
  · have : j = j / 2 * 2 := by omega
    rw [← this, List.getElem?_eq_getElem hj] at h1
    injection h1 with h1
    rw [h1]; rfl
  · have : j = j / 2 * 2 + 1 := by omega
    rw [← this, List.getElem?_eq_getElem hj] at h2
    injection h2 with h2
    rw [h2]; rfl
theorem GramsR.erase {l : List G} {vs : List Value} {B : Nat → Prop} {w : World} (h : GramsR l vs B w) (hl : vs.length = l.length * 2) (i : Nat) (hi : i < l.length) :
    GramsR (l.eraseIdx i) (vs.take (i * 2) ++ vs.drop ((i + 1) * 2)) B w := by
  intro j x hx
  rw [List.getElem?_eraseIdx] at hx
  split at hx
  · rename_i hj
    obtain ⟨bv, h1, h2, h3⟩ := h j x hx
    refine ⟨bv, ?_, ?_, h3⟩
    · rw [List.getElem?_append_left (by rw [List.length_take]; omega), List.getElem?_take, if_pos (by omega)]; exact h1
    · rw [List.getElem?_append_left (by rw [List.length_take]; omega), List.getElem?_take, if_pos (by omega)]; exact h2
  · rename_i hj
    obtain ⟨bv, h1, h2, h3⟩ := h (j + 1) x hx
    have ht : (vs.take (i * 2)).length = i * 2 := by rw [List.length_take]; omega
    refine ⟨bv, ?_, ?_, h3⟩
    · rw [List.getElem?_append_right (by omega), ht, List.getElem?_drop, show (i + 1) * 2 + (j * 2 - i * 2) = (j + 1) * 2 from by omega]; exact h1
    · rw [List.getElem?_append_right (by omega), ht, List.getElem?_drop, show (i + 1) * 2 + (j * 2 + 1 - i * 2) = (j + 1) * 2 + 1 from by omega]; exact h2

/-- The net, its row another one. -/
theorem NetIs.dropped {g : Nat} {l : List G} {F B : Nat → Prop} {w w1 w2 : World} {v : Value} {vs : List Value} (hN : NetIs g l F w v vs B) {i m r c : Nat} (hi : i < l.length) (hm : l.length = m + 1) (h1 : Grow w w1)
    (hr1 : ∀ k, (Value.slice (some ⟨r, 0, none⟩) (m + 1) c).ownBlock = some k → w.heap.size ≤ k) (hrow : w2.ownsRow w.heap.size 81 2 (.slice (some ⟨r, 0, none⟩) m c) m (vs.take (i * 2) ++ vs.drop ((i + 1) * 2))) (h2 : Keep (fun k => k = r) w1 w2) :
    ∃ F', Net g (l.eraseIdx i) F' (w2.setCell ⟨g, 0, none⟩ (.slice (some ⟨r, 0, none⟩) m c)) ∧ Keep F w (w2.setCell ⟨g, 0, none⟩ (.slice (some ⟨r, 0, none⟩) m c)) ∧ (∀ k, F' k → F k ∨ w.heap.size ≤ k) := by
  have hg := hN.lt g hN.fg
  have hr := hr1 r rfl
  have hk2 : Keep NoB w w2 := Keep.trans h1 h2 (fun k hk => .inr (hk ▸ hr))
  have hs : Keep (fun k => k = g) w2 (w2.setCell ⟨g, 0, none⟩ (.slice (some ⟨r, 0, none⟩) m c)) := (Keep.refl (fun k => k = g) w2).setCell (p := ⟨g, 0, none⟩) (.inl rfl) _
  have hkf : Keep (fun k => k = g) w (w2.setCell ⟨g, 0, none⟩ (.slice (some ⟨r, 0, none⟩) m c)) := (hk2.mono (fun _ h => h.elim)).trans hs (fun k hk => .inl hk)
  have hle : (l.eraseIdx i).length = m := by rw [List.length_eraseIdx, if_pos hi]; omega
  have hb : ∀ k, (Value.slice (some ⟨r, 0, none⟩) m c).ownBlock = some k → k = r := fun k hk => by simpa [Value.ownBlock] using hk.symm
  have hrlt := (hrow.lt r rfl).2
  refine ⟨fun k => (F k ∨ k = r) ∧ k < (w2.setCell ⟨g, 0, none⟩ (.slice (some ⟨r, 0, none⟩) m c)).heap.size, ⟨.slice (some ⟨r, 0, none⟩) m c, vs.take (i * 2) ++ vs.drop ((i + 1) * 2), B, ⟨heap_setCell_same _ ((hk2.block g hg (fun h => h)).trans hN.cell), ?_, ?_, ?_, ⟨.inl hN.fg, Nat.lt_of_lt_of_le hg hkf.size⟩, ?_, ?_, fun k hk => hk.2⟩⟩, hkf.mono (fun k hk => hk ▸ hN.fg), fun k hk => hk.1.elim (fun h => .inl h) (fun (h : k = r) => .inr (by omega))⟩
  · rw [hle]
    exact own_keep (own_base0 hrow) hs (fun k hk => by have := hb k hk; omega)
  · exact (hN.grams.erase hN.row.1 i hi).keep hkf (fun k hk => (hN.fB k hk).2.1)
  · have := hN.few; omega
  · intro k hk
    have := hb k hk
    refine ⟨⟨.inr this, ?_⟩, by omega⟩
    rw [this]; exact Nat.lt_of_lt_of_le hrlt hs.size
  · intro k hk
    have h3 := hN.fB k hk
    refine ⟨⟨.inl h3.1, Nat.lt_of_lt_of_le (hN.lt k h3.1) hkf.size⟩, h3.2.1, fun h => ?_⟩
    have := hb k h
    have := hN.lt k h3.1
    omega

set_option maxRecDepth 100000 in
theorem drop_calls (g : Nat) (l : List G) (F : Nat → Prop) (i : Nat) (w : World) (hN : Net g l F w) (hi : i < l.length) :
    Calls Try.prog 38 #[.pointer (some ⟨g, 0, none⟩), .int .i64 i] w fun e w' => e = .returned (.tuple #[]) ∧ ∃ F', Net g (l.eraseIdx i) F' w' ∧ Keep F w w' ∧ (∀ k, F' k → F k ∨ w.heap.size ≤ k) := by
  obtain ⟨v, vs, B, hN⟩ := hN
  obtain ⟨m, hm⟩ : ∃ m, l.length = m + 1 := ⟨l.length - 1, by omega⟩
  have hone := hN.grams.one hN.row.1
  have hc := cell0 hN.cell
  have hz := frozen0 0 hN.cell
  have hrow := hN.row
  rw [hm] at hrow
  obtain ⟨q, cv, rfl, _⟩ := own_cells hrow (by omega)
  have hfew := hN.few
  have HN := Lib.hid hN
  have HR := Lib.hid hrow
  have HO := Lib.hid hone
  have Hm := Lib.hid hm
  have hi' : i ≤ m := by omega
  have hmm : m + 1 ≤ 1000 := by omega
  have hw : IntKind.i64.wrap ((i : Int) + 1) = (i : Int) + 1 := IntWalk.i64_in _ (by omega)
  have Hg := Lib.hid (hN.lt g hN.fg)
  clear hN hrow hone hm hi hfew
  go_enter Try.func38, Try.ntmps38
  go_wp2_with fail
  refine (gclone_calls _ (m + 1) vs w (SliceR.of_own HR.out) hmm HO.out (by simp)).mono ?_
  rintro e w1 ⟨r, c, rfl, ho, h1⟩
  have Ho := Lib.hid ho
  clear ho
  go_wp2_with fail
  refine (gdel_calls r m c i w.heap.size vs w1 Ho.out hi' (by omega) HO.out).mono ?_
  rintro e w2 ⟨rfl, ho2, h2⟩
  have hne : g ≠ r := by
    have := (Ho.out.lt r rfl).1
    have := Hg.out
    omega
  have hk : Keep NoB w w2 := Keep.trans h1 h2 (fun k hk => .inr (hk ▸ (Ho.out.lt r rfl).1))
  have hc2 := hk.cell hc (fun h => h)
  have hz2 := (hk.frozen (p := ⟨g, 0, none⟩) Hg.out (fun h => h)).trans hz
  have Ho2 := Lib.hid ho2
  clear ho2
  go_wp2
  go_end0
  exact ⟨rfl, HN.out.dropped (by have := Hm.out; omega) Hm.out h1 (fun k hk => (Ho.out.lt k hk).1) Ho2.out h2⟩

theorem natT2 (i : Int) (h : 0 ≤ i) : ∃ n : Nat, i = n := ⟨i.toNat, by omega⟩

theorem take_nil (i : Int) (w : World) : Calls Try.prog 20 #[.pointer none, .int .i64 i] w fun e w' => e = .returned (.tuple #[.int .i64 0, .slice none 0 0, .bool false]) ∧ w = w' := by
  go_enter Try.func20, Try.ntmps20
  go_wp2_with fail
  refine (nat_nil i w).mono ?_
  rintro e w' ⟨rfl, rfl⟩
  go_wp2
  go_ret3
  exact ⟨rfl, rfl⟩

theorem take_no (g : Nat) (l : List G) (F : Nat → Prop) (i : Int) (w : World) (hN : Net g l F w) (hi : i < 0 ∨ l.length ≤ i) :
    Calls Try.prog 20 #[.pointer (some ⟨g, 0, none⟩), .int .i64 i] w fun e w' => e = .returned (.tuple #[.int .i64 0, .slice none 0 0, .bool false]) ∧ w = w' := by
  have HN := Lib.hid hN
  have Hi := Lib.hid hi
  clear hN hi
  go_enter Try.func20, Try.ntmps20
  go_wp2_with fail
  refine (nat_no g l F i w HN.out Hi.out).mono ?_
  rintro e w' ⟨rfl, rfl⟩
  go_wp2
  go_ret3
  exact ⟨rfl, rfl⟩

set_option maxRecDepth 100000 in
theorem take_yes (g : Nat) (l : List G) (F : Nat → Prop) (i : Nat) (w : World) (hN : Net g l F w) (hi : i < l.length) :
    Calls Try.prog 20 #[.pointer (some ⟨g, 0, none⟩), .int .i64 i] w fun e w' => ∃ A c B, e = .returned (.tuple #[.int .i64 l[i].1, .slice A l[i].2.length c, .bool true]) ∧
      Foot (SliceR 1 (.slice A l[i].2.length c) l[i].2.length (u8s l[i].2)) w' B ∧ (∀ k, B k → w.heap.size ≤ k) ∧ ∃ F', Net g (l.eraseIdx i) F' w' ∧ Keep F w w' ∧ (∀ k, F' k → (F k ∨ w.heap.size ≤ k) ∧ ¬ B k) := by
  have HN := Lib.hid hN
  clear hN
  have Hi := Lib.hid hi
  go_enter Try.func20, Try.ntmps20
  go_wp2_with fail
  refine (nat_yes g l F i w HN.out Hi.out).mono ?_
  rintro e w1 ⟨A, c, rfl, ho, h1⟩
  have Ho := Lib.hid ho
  clear ho
  go_wp2_with fail
  refine (drop_calls g l F i w1 (HN.out.keep h1 (fun _ _ h => h)) Hi.out).mono ?_
  rintro e w2 ⟨rfl, F', hN', h2, hF⟩
  have HN' := Lib.hid hN'
  clear hN'
  go_wp2
  go_ret3
  have hlt : ∀ k, F k → k < w.heap.size := by obtain ⟨v, vs, B, h⟩ := HN.out; exact h.lt
  have hb : ∀ k, (Value.slice A l[i].2.length c).ownBlock = some k → w.heap.size ≤ k ∧ k < w1.heap.size := fun k hk => Ho.out.lt k hk
  refine ⟨A, c, fun k => (Value.slice A l[i].2.length c).ownBlock = some k, rfl, (Foot.of_own Ho.out).keep h2 (fun k hk hF => by have := hb k hk; have := hlt k hF; omega), fun k hk => (hb k hk).1, F', HN'.out, (h1.mono (fun _ h => h.elim)).trans h2 (fun k hk => .inl hk), fun k hk => ⟨?_, fun h => ?_⟩⟩
  · rcases hF k hk with h | h
    · exact .inl h
    · exact .inr (Nat.le_trans h1.size h)
  · have h3 := hb k h
    rcases hF k hk with h | h
    · have := hlt k h; omega
    · omega

/-- Push that may not. -/
theorem push_no (g : Nat) (l : List G) (F : Nat → Prop) (w : World) (hN : Net g l F w) (to : Int) (A : Option Addr) (n c : Nat) (h : to < 0 ∨ 1 < to ∨ 200 < n ∨ 1000 ≤ l.length) :
    Calls Try.prog 16 #[.pointer (some ⟨g, 0, none⟩), .int .i64 to, .slice A n c] w fun e w' => e = .returned (.bool false) ∧ w = w' := by
  obtain ⟨v, vs, B, hN⟩ := hN
  obtain ⟨A2, m, rfl, _⟩ := own_slice hN.row
  have hc := cell0 hN.cell
  clear hN
  by_cases h0 : to < 0
  · clear h
    go_enter Try.func16, Try.ntmps16
    go_wp2
    go_ret
    exact ⟨rfl, rfl⟩
  by_cases h1 : 1 < to
  · clear h
    go_enter Try.func16, Try.ntmps16
    go_wp2
    go_ret
    exact ⟨rfl, rfl⟩
  by_cases h2 : 200 < n
  · clear h
    go_enter Try.func16, Try.ntmps16
    go_wp2
    go_ret
    exact ⟨rfl, rfl⟩
  · have h3 : 1000 ≤ l.length := by omega
    clear h
    go_enter Try.func16, Try.ntmps16
    go_wp2
    go_ret
    exact ⟨rfl, rfl⟩
theorem push_nil (w : World) (to : Int) (A : Option Addr) (n c : Nat) :
    Calls Try.prog 16 #[.pointer none, .int .i64 to, .slice A n c] w fun e w' => e = .returned (.bool false) ∧ w = w' := by
  go_enter Try.func16, Try.ntmps16
  go_wp2
  go_ret
  exact ⟨rfl, rfl⟩
end Go.Proofs.Ytimpnbkincgbmaa

import Derived.Test.YtimpnbkincgbmaaNetN
import Derived.Test.YtimpnbkincgbmaaNetH
set_option linter.unusedSimpArgs false
set_option linter.unusedVariables false
namespace Go.Proofs.Ytimpnbkincgbmaa
open Go.RowKit

def inB (l : List G) (i : Int) : Bool := decide (0 ≤ i ∧ i < l.length)
def ix (l : List G) (i : Int) : Nat := if inB l i then i.toNat else l.length
def tk (l : List G) (i : Int) : G := l.getD (ix l i) (0, [])
theorem ix_cases (l : List G) (i : Int) : (∃ k : Nat, ∃ h : k < l.length, i = k ∧ inB l i = true ∧ ix l i = k ∧ tk l i = l[k]) ∨ ((i < 0 ∨ l.length ≤ i) ∧ inB l i = false ∧ ix l i = l.length ∧ tk l i = (0, [])) := by
  by_cases h : 0 ≤ i ∧ i < l.length
  · have h1 : inB l i = true := by simpa [inB] using h
    have h2 : ix l i = i.toNat := by simp [ix, h1]
    refine .inl ⟨i.toNat, by omega, by omega, h1, h2, ?_⟩
    rw [tk, h2, List.getD_eq_getElem?_getD, List.getElem?_eq_getElem (by omega)]
    rfl
  · have h1 : inB l i = false := by simpa [inB] using h
    have h2 : ix l i = l.length := by simp [ix, h1]
    refine .inr ⟨by omega, h1, h2, ?_⟩
    rw [tk, h2, List.getD_eq_getElem?_getD, List.getElem?_eq_none (Nat.le_refl _)]
    rfl
theorem sliceR_nil (w : World) : SliceR 1 (.slice none 0 0) 0 (u8s []) w := ⟨none, 0, rfl, Nat.le_refl _, rfl, fun _ => rfl, fun j u hu => by simp at hu⟩
def okPush (l : List G) (to : Int) (b : List Int) : Bool := decide (0 ≤ to ∧ to ≤ 1 ∧ b.length ≤ 200 ∧ l.length < 1000)
def rPush (l : List G) (to : Int) (b : List Int) : List G := if okPush l to b then l ++ [(to, b)] else l
def okTwice (l : List G) (i : Int) : Bool := inB l i && okPush l (tk l i).1 (tk l i).2
def rTwice (l : List G) (i : Int) : List G := if inB l i then rPush l (tk l i).1 (tk l i).2 else l
def okBend (l : List G) (i : Int) (b : List Int) : Bool := inB l i && decide (b.length ≤ 200)
def rBend (l : List G) (i : Int) (b : List Int) : List G := if okBend l i b then l.set (ix l i) ((tk l i).1, b) else l

theorem okPush_cases (l : List G) (to : Int) (b : List Int) : ((0 ≤ to ∧ to ≤ 1 ∧ b.length ≤ 200 ∧ l.length < 1000) ∧ okPush l to b = true ∧ rPush l to b = l ++ [(to, b)]) ∨ ((to < 0 ∨ 1 < to ∨ 200 < b.length ∨ 1000 ≤ l.length) ∧ okPush l to b = false ∧ rPush l to b = l) := by
  by_cases h : 0 ≤ to ∧ to ≤ 1 ∧ b.length ≤ 200 ∧ l.length < 1000
  · have h1 : okPush l to b = true := by simpa [okPush] using h
    exact .inl ⟨h, h1, by simp [rPush, h1]⟩
  · have h1 : okPush l to b = false := decide_eq_false h
    exact .inr ⟨by omega, h1, by simp [rPush, h1]⟩

/-! The program's. -/
theorem npush_any (g : Nat) (l : List G) (F : Nat → Prop) (w : World) (hN : Net g l F w) (to : Int) (A : Option Addr) (c : Nat) (b : List Int) (hb : SliceR 1 (.slice A b.length c) b.length (u8s b) w) :
    Calls Try.prog 16 #[.pointer (some ⟨g, 0, none⟩), .int .i64 to, .slice A b.length c] w fun e w' => e = .returned (.bool (okPush l to b)) ∧ ∃ F', Net g (rPush l to b) F' w' ∧ Keep F w w' ∧ (∀ k, F' k → F k ∨ w.heap.size ≤ k) := by
  rcases okPush_cases l to b with ⟨⟨h1, h2, h3, h4⟩, e1, e2⟩ | ⟨h, e1, e2⟩
  · rw [e1, e2]
    exact push_yes g l F w hN to h1 h2 _ b hb h3 h4
  · rw [e1, e2]
    refine (push_no g l F w hN to A b.length c h).mono ?_
    rintro e w' ⟨rfl, rfl⟩
    exact ⟨rfl, F, hN, Keep.refl _ _, fun k h => .inl h⟩
theorem nat_any (g : Nat) (l : List G) (F : Nat → Prop) (w : World) (hN : Net g l F w) (i : Int) :
    Calls Try.prog 18 #[.pointer (some ⟨g, 0, none⟩), .int .i64 i] w fun e w' => ∃ A c, e = .returned (.tuple #[.int .i64 (tk l i).1, .slice A (tk l i).2.length c, .bool (inB l i)]) ∧
      SliceR 1 (.slice A (tk l i).2.length c) (tk l i).2.length (u8s (tk l i).2) w' ∧ Grow w w' := by
  rcases ix_cases l i with ⟨k, hk, rfl, e1, e2, e3⟩ | ⟨h, e1, e2, e3⟩
  · rw [e1, e3]
    refine (nat_yes g l F k w hN hk).mono ?_
    rintro e w' ⟨A, c, rfl, ho, hg⟩
    exact ⟨A, c, rfl, SliceR.of_own ho, hg⟩
  · rw [e1, e3]
    refine (nat_no g l F i w hN h).mono ?_
    rintro e w' ⟨rfl, rfl⟩
    exact ⟨none, 0, rfl, sliceR_nil _, Keep.refl _ _⟩
theorem take_any (g : Nat) (l : List G) (F : Nat → Prop) (w : World) (hN : Net g l F w) (i : Int) :
    Calls Try.prog 20 #[.pointer (some ⟨g, 0, none⟩), .int .i64 i] w fun e w' => ∃ A c, e = .returned (.tuple #[.int .i64 (tk l i).1, .slice A (tk l i).2.length c, .bool (inB l i)]) ∧
      SliceR 1 (.slice A (tk l i).2.length c) (tk l i).2.length (u8s (tk l i).2) w' ∧ ∃ F', Net g (l.eraseIdx (ix l i)) F' w' ∧ Keep F w w' ∧ (∀ k, F' k → F k ∨ w.heap.size ≤ k) := by
  rcases ix_cases l i with ⟨k, hk, rfl, e1, e2, e3⟩ | ⟨h, e1, e2, e3⟩
  · rw [e1, e2, e3]
    refine (take_yes g l F k w hN hk).mono ?_
    rintro e w' ⟨A, c, B, rfl, hf, hB, F', h1, h2, h3⟩
    exact ⟨A, c, rfl, hf.now, F', h1, h2, fun k hk => (h3 k hk).1⟩
  · rw [e1, e2, e3, List.eraseIdx_of_length_le (Nat.le_refl _)]
    refine (take_no g l F i w hN h).mono ?_
    rintro e w' ⟨rfl, rfl⟩
    exact ⟨none, 0, rfl, sliceR_nil _, F, hN, Keep.refl _ _, fun k h => .inl h⟩
set_option maxRecDepth 100000 in
theorem ntwice_any (g : Nat) (l : List G) (F : Nat → Prop) (w : World) (hN : Net g l F w) (i : Int) :
    Calls Try.prog 24 #[.pointer (some ⟨g, 0, none⟩), .int .i64 i] w fun e w' => e = .returned (.bool (okTwice l i)) ∧ ∃ F', Net g (rTwice l i) F' w' ∧ Keep F w w' ∧ (∀ k, F' k → F k ∨ w.heap.size ≤ k) := by
  rcases ix_cases l i with ⟨k, hk, rfl, e1, e2, e3⟩ | ⟨h, e1, e2, e3⟩
  · rw [show okTwice l k = okPush l l[k].1 l[k].2 from by simp [okTwice, e1, e3], show rTwice l k = rPush l l[k].1 l[k].2 from by simp [rTwice, e1, e3]]
    have HN := Lib.hid hN
    have Hi := Lib.hid hk
    clear hN e1 e2 e3
    go_enter Try.func24, Try.ntmps24
    go_wp2_with fail
    refine (nat_yes g l F k w HN.out Hi.out).mono ?_
    rintro e w1 ⟨A, c, rfl, ho, h1⟩
    have Ho := Lib.hid ho
    clear ho
    go_wp2_with fail
    refine (npush_any g l F w1 (HN.out.keep h1 (fun _ _ h => h)) l[k].1 _ _ l[k].2 (SliceR.of_own Ho.out)).mono ?_
    rintro e w2 ⟨rfl, F', hN', h2, hF⟩
    have HN' := Lib.hid hN'
    clear hN'
    go_wp2
    go_ret
    exact ⟨rfl, F', HN'.out, (h1.mono (fun _ h => h.elim)).trans h2 (fun k hk => .inl hk), fun k hk => (hF k hk).imp id (fun h => Nat.le_trans h1.size h)⟩
  · rw [show okTwice l i = false from by simp [okTwice, e1], show rTwice l i = l from by simp [rTwice, e1]]
    refine (twice_no g l F i w hN h).mono ?_
    rintro e w' ⟨rfl, rfl⟩
    exact ⟨rfl, F, hN, Keep.refl _ _, fun k h => .inl h⟩
theorem nbend_any (g : Nat) (l : List G) (F : Nat → Prop) (w : World) (hN : Net g l F w) (i : Int) (A : Option Addr) (c : Nat) (b : List Int) (hb : SliceR 1 (.slice A b.length c) b.length (u8s b) w) :
    Calls Try.prog 17 #[.pointer (some ⟨g, 0, none⟩), .int .i64 i, .slice A b.length c] w fun e w' => e = .returned (.bool (okBend l i b)) ∧ ∃ F', Net g (rBend l i b) F' w' ∧ Keep F w w' ∧ (∀ k, F' k → F k ∨ w.heap.size ≤ k) := by
  rcases ix_cases l i with ⟨k, hk, rfl, e1, e2, e3⟩ | ⟨h, e1, e2, e3⟩
  · by_cases hl : b.length ≤ 200
    · have e4 : okBend l k b = true := by simp [okBend, e1, hl]
      rw [e4, show rBend l k b = l.set k (l[k].1, b) from by simp [rBend, e4, e2, e3]]
      exact bend_yes g l F k _ b w hN hk hb hl
    · have e4 : okBend l k b = false := by simp [okBend, hl]
      rw [e4, show rBend l k b = l from by simp [rBend, e4]]
      refine (bend_no g l F k A b.length c w hN (by omega)).mono ?_
      rintro e w' ⟨rfl, rfl⟩
      exact ⟨rfl, F, hN, Keep.refl _ _, fun k h => .inl h⟩
  · have e4 : okBend l i b = false := by simp [okBend, e1]
    rw [e4, show rBend l i b = l from by simp [rBend, e4]]
    refine (bend_no g l F i A b.length c w hN (by omega)).mono ?_
    rintro e w' ⟨rfl, rfl⟩
    exact ⟨rfl, F, hN, Keep.refl _ _, fun k h => .inl h⟩

/-! The document's. -/
theorem rpush_any (l : List G) (v : Value) (R : Nat → Prop) (w : World) (hN : Ref l v R w) (to : Int) (A : Option Addr) (c : Nat) (b : List Int) (C : Nat → Prop) (hb : Foot (SliceR 1 (.slice A b.length c) b.length (u8s b)) w C) :
    Calls Try.prog 42 #[v, .int .i64 to, .slice A b.length c] w fun e w' => ∃ v' R', e = .returned (.tuple #[v', .bool (okPush l to b)]) ∧ Ref (rPush l to b) v' R' w' ∧ Grow w w' ∧ ∀ k, R' k → R k ∨ C k ∨ w.heap.size ≤ k := by
  rcases okPush_cases l to b with ⟨⟨h1, h2, h3, h4⟩, e1, e2⟩ | ⟨h, e1, e2⟩
  · rw [e1, e2]
    exact rpush_yes l v R w hN to h1 h2 A c b C hb h3 h4
  · rw [e1, e2]
    obtain ⟨A1, c1, rfl⟩ := hN.slice
    refine (rpush_no A1 l.length c1 to A b.length c w h).mono ?_
    rintro e w' ⟨rfl, rfl⟩
    exact ⟨_, R, rfl, hN, Keep.refl _ _, fun k h => .inl h⟩
theorem rat_any (l : List G) (v : Value) (R : Nat → Prop) (w : World) (hN : Ref l v R w) (i : Int) :
    Calls Try.prog 23 #[v, .int .i64 i] w fun e w' => ∃ A c, e = .returned (.tuple #[.agg #[.int .i64 (tk l i).1, .slice A (tk l i).2.length c], .bool (inB l i)]) ∧
      SliceR 1 (.slice A (tk l i).2.length c) (tk l i).2.length (u8s (tk l i).2) w' ∧ Grow w w' := by
  rcases ix_cases l i with ⟨k, hk, rfl, e1, e2, e3⟩ | ⟨h, e1, e2, e3⟩
  · rw [e1, e3]
    refine (rat_yes l v R k w hN hk).mono ?_
    rintro e w' ⟨A, c, rfl, hg, hf, _⟩
    exact ⟨A, c, rfl, hf.now.grow hg, hg⟩
  · rw [e1, e3]
    obtain ⟨A1, c1, rfl⟩ := hN.slice
    refine (rat_no A1 l.length c1 i w h).mono ?_
    rintro e w' ⟨rfl, hg⟩
    exact ⟨none, 0, rfl, sliceR_nil _, hg⟩
theorem rdrop_any (l : List G) (v : Value) (R : Nat → Prop) (w : World) (hN : Ref l v R w) (i : Int) :
    Calls Try.prog 39 #[v, .int .i64 i] w fun e w' => ∃ v' R', e = .returned v' ∧ Ref (l.eraseIdx (ix l i)) v' R' w' ∧ Grow w w' ∧ ∀ k, R' k → R k ∨ w.heap.size ≤ k := by
  rcases ix_cases l i with ⟨k, hk, rfl, e1, e2, e3⟩ | ⟨h, e1, e2, e3⟩
  · rw [e2]; exact rdrop_calls l v R k k w hN (.inl rfl)
  · rw [e2]; exact rdrop_calls l v R i _ w hN (.inr ⟨rfl, h⟩)
theorem rtwice_any (l : List G) (v : Value) (R : Nat → Prop) (w : World) (hN : Ref l v R w) (i : Int) :
    Calls Try.prog 40 #[v, .int .i64 i] w fun e w' => ∃ v' R', e = .returned (.tuple #[v', .bool (okTwice l i)]) ∧ Ref (rTwice l i) v' R' w' ∧ Grow w w' ∧ ∀ k, R' k → R k ∨ w.heap.size ≤ k := by
  rcases ix_cases l i with ⟨k, hk, rfl, e1, e2, e3⟩ | ⟨h, e1, e2, e3⟩
  · rw [show okTwice l k = okPush l l[k].1 l[k].2 from by simp [okTwice, e1, e3], show rTwice l k = rPush l l[k].1 l[k].2 from by simp [rTwice, e1, e3]]
    refine (rtwice_run l v R k w hN hk (fun v' o w' => o = okPush l l[k].1 l[k].2 ∧ ∃ R', Ref (rPush l l[k].1 l[k].2) v' R' w' ∧ Grow w w' ∧ ∀ k, R' k → R k ∨ w.heap.size ≤ k) (fun A c hf hl => ?_)).mono ?_
    · have hd : Grow w w.drew := (Keep.refl _ _).drew
      refine (rpush_any l v R w.drew (hN.grow hd) _ A c _ R (hf.grow hd)).mono ?_
      rintro e w' ⟨v', R', rfl, h1, h2, h3⟩
      exact ⟨v', _, rfl, h2, rfl, R', h1, hd.grow h2, fun k h => (h3 k h).elim (fun h => .inl h) (fun h => h.elim (fun h => .inl h) (fun h => .inr h))⟩
    · rintro e w' ⟨v', o, rfl, rfl, R', h1, h2, h3⟩
      exact ⟨v', R', rfl, h1, h2, h3⟩
  · rw [show okTwice l i = false from by simp [okTwice, e1], show rTwice l i = l from by simp [rTwice, e1]]
    obtain ⟨A1, c1, rfl⟩ := hN.slice
    refine (rtwice_no A1 l.length c1 i w h).mono ?_
    rintro e w' ⟨rfl, rfl⟩
    exact ⟨_, R, rfl, hN, Keep.refl _ _, fun k h => .inl h⟩
theorem rbend_any (l : List G) (v : Value) (R : Nat → Prop) (w : World) (hN : Ref l v R w) (i : Int) (A : Option Addr) (c : Nat) (b : List Int) (C : Nat → Prop) (hb : Foot (SliceR 1 (.slice A b.length c) b.length (u8s b)) w C) :
    Calls Try.prog 41 #[v, .int .i64 i, .slice A b.length c] w fun e w' => ∃ v' R', e = .returned (.tuple #[v', .bool (okBend l i b)]) ∧ Ref (rBend l i b) v' R' w' ∧ Grow w w' ∧ ∀ k, R' k → R k ∨ C k ∨ w.heap.size ≤ k := by
  rcases ix_cases l i with ⟨k, hk, rfl, e1, e2, e3⟩ | ⟨h, e1, e2, e3⟩
  · by_cases hl : b.length ≤ 200
    · have e4 : okBend l k b = true := by simp [okBend, e1, hl]
      rw [e4, show rBend l k b = l.set k (l[k].1, b) from by simp [rBend, e4, e2, e3]]
      exact rbend_yes l v R k w hN hk A c b C hb hl
    · have e4 : okBend l k b = false := by simp [okBend, hl]
      rw [e4, show rBend l k b = l from by simp [rBend, e4]]
      obtain ⟨A1, c1, rfl⟩ := hN.slice
      refine (rbend_no A1 l.length c1 k A b.length c w (by omega)).mono ?_
      rintro e w' ⟨rfl, rfl⟩
      exact ⟨_, R, rfl, hN, Keep.refl _ _, fun k h => .inl h⟩
  · have e4 : okBend l i b = false := by simp [okBend, e1]
    rw [e4, show rBend l i b = l from by simp [rBend, e4]]
    obtain ⟨A1, c1, rfl⟩ := hN.slice
    refine (rbend_no A1 l.length c1 i A b.length c w (by omega)).mono ?_
    rintro e w' ⟨rfl, rfl⟩
    exact ⟨_, R, rfl, hN, Keep.refl _ _, fun k h => .inl h⟩
end Go.Proofs.Ytimpnbkincgbmaa

import Derived.Test.YtimpnbkincgbmaaNetB
import Derived.Test.YtimpnbkincgbmaaNetA
import Derived.Test.YtimpnbkincgbmaaOrd
set_option linter.unusedVariables false
set_option linter.unusedSimpArgs false
namespace Go.Proofs.Ytimpnbkincgbmaa
open Go.RowKit

theorem info_gram : (Try.prog.info? 81).map (fun i => (i.zero, i.size, i.bytes)) = some (some (.agg #[.int .i64 0, .slice none 0 0]), 2, 32) := by kernel_rfl
theorem u_grams : Try.prog.underlying 74 = some (.slice 81) := by kernel_rfl

abbrev G : Type := Int × List Int
/-- The cells of grams: vs has two a gram; its bytes lie in blocks of B. -/
def GramsR (l : List G) (vs : List Value) (B : Nat → Prop) (w : World) : Prop :=
  ∀ i x, l[i]? = some x → ∃ bv, vs[i * 2]? = some (.int .i64 x.1) ∧ vs[i * 2 + 1]? = some bv ∧ x.2.length ≤ 200 ∧ Foot (SliceR 1 bv x.2.length (u8s x.2)) w B
/-- A net at block g: its cell, its row, its grams. F: the blocks it lies in. -/
structure NetIs (g : Nat) (l : List G) (F : Nat → Prop) (w : World) (v : Value) (vs : List Value) (B : Nat → Prop) : Prop where
  cell : w.heap[g]? = some (.cells #[v] 78 (0, 0))
  row : w.ownsRow 0 81 2 v l.length vs
  grams : GramsR l vs B w
  few : l.length ≤ 1000
  fg : F g
  frow : ∀ k, v.ownBlock = some k → F k ∧ k ≠ g
  fB : ∀ k, B k → F k ∧ k ≠ g ∧ v.ownBlock ≠ some k
  lt : ∀ k, F k → k < w.heap.size
def Net (g : Nat) (l : List G) (F : Nat → Prop) (w : World) : Prop := ∃ v vs B, NetIs g l F w v vs B

theorem GramsR.keep {l : List G} {vs : List Value} {B S : Nat → Prop} {w w' : World} (h : GramsR l vs B w) (hk : Keep S w w') (hd : ∀ k, B k → ¬ S k) : GramsR l vs B w' := fun i x hx => by
  obtain ⟨bv, h1, h2, h3, h4⟩ := h i x hx
  exact ⟨bv, h1, h2, h3, h4.keep hk hd⟩
theorem GramsR.mono {l : List G} {vs : List Value} {B C : Nat → Prop} {w : World} (h : GramsR l vs B w) (hC : ∀ k, C k → k < w.heap.size) (hBC : ∀ k, B k → C k) : GramsR l vs C w := fun i x hx => by
  obtain ⟨bv, h1, h2, h3, h4⟩ := h i x hx
  exact ⟨bv, h1, h2, h3, h4.mono hC hBC⟩


theorem NetIs.keep {g : Nat} {l : List G} {F S B : Nat → Prop} {w w' : World} {v : Value} {vs : List Value} (h : NetIs g l F w v vs B) (hk : Keep S w w') (hd : ∀ k, F k → ¬ S k) : NetIs g l F w' v vs B :=
  ⟨(hk.block g (h.lt g h.fg) (hd g h.fg)).trans h.cell, own_keep h.row hk (fun k hv => hd k (h.frow k hv).1), h.grams.keep hk (fun k hb => hd k (h.fB k hb).1), h.few, h.fg, h.frow, h.fB, fun k hF => Nat.lt_of_lt_of_le (h.lt k hF) hk.size⟩
theorem Net.keep {g : Nat} {l : List G} {F S : Nat → Prop} {w w' : World} (h : Net g l F w) (hk : Keep S w w') (hd : ∀ k, F k → ¬ S k) : Net g l F w' := by
  obtain ⟨v, vs, B, h⟩ := h
  exact ⟨v, vs, B, h.keep hk hd⟩



/-- New. -/
theorem net_new (w : World) : Calls Try.prog 15 #[] w fun e w' => ∃ g F, e = .returned (.pointer (some ⟨g, 0, none⟩)) ∧ Net g [] F w' ∧ Grow w w' ∧ ∀ k, F k → w.heap.size ≤ k := by
  refine (new_calls w).mono ?_
  rintro e w' ⟨rfl, rfl⟩
  refine ⟨w.heap.size, fun k => k = w.heap.size, rfl, ⟨.slice none 0 0, [], NoB, heap_alloc_new _ _, World.ownsRow_nil _ _ _ _, fun i x hx => by simp at hx, by simp, rfl, by simp [Value.ownBlock], fun k hk => hk.elim, fun k hk => by rw [hk]; simp⟩, (Keep.refl _ _).alloc _, fun k hk => by omega⟩

theorem GramsR.snoc {l : List G} {vs : List Value} {B C : Nat → Prop} {w : World} (h : GramsR l vs B w) (hv : vs.length = l.length * 2) (x : G) (bv : Value) (hb : x.2.length ≤ 200) (hf : Foot (SliceR 1 bv x.2.length (u8s x.2)) w C)
    (hB : ∀ k, B k → k < w.heap.size) : GramsR (l ++ [x]) (vs ++ [.int .i64 x.1, bv]) (fun k => B k ∨ C k) w := fun i y hy => by
  have hlt : ∀ k, B k ∨ C k → k < w.heap.size := fun k hk => hk.elim (hB k) (hf.1 k)
  rcases Nat.lt_or_ge i l.length with hi | hi
  · rw [List.getElem?_append_left hi] at hy
    obtain ⟨bv', h1, h2, h3, h4⟩ := h i y hy
    refine ⟨bv', ?_, ?_, h3, h4.mono hlt (fun k hk => .inl hk)⟩
    · rw [List.getElem?_append_left (by omega)]; exact h1
    · rw [List.getElem?_append_left (by omega)]; exact h2
  · rw [List.getElem?_append_right hi] at hy
    have h0 : i - l.length = 0 := by
      rcases Nat.eq_zero_or_pos (i - l.length) with h | h
      · exact h
      · rw [List.getElem?_eq_none (by simp; omega)] at hy; cases hy
    rw [h0] at hy
    injection hy with hy
    subst hy
    obtain rfl : i = l.length := by omega
    refine ⟨bv, ?_, ?_, hb, hf.mono hlt (fun k hk => .inr hk)⟩
    · rw [List.getElem?_append_right (by omega), show l.length * 2 - vs.length = 0 from by omega]; rfl
    · rw [List.getElem?_append_right (by omega), show l.length * 2 + 1 - vs.length = 1 from by omega]; rfl

theorem NetIs.pushed {g : Nat} {l : List G} {F B : Nat → Prop} {w : World} {v : Value} {vs : List Value} (hN : NetIs g l F w v vs B) {to : Int} {b : List Int} {bv v2 : Value} {w1 w2 : World} {p : Prop} {o : Obj} (h1 : Grow w w1)
    (ho : w1.ownsRow w.heap.size 5 1 bv b.length (u8s b)) (hap : Apped 0 81 2 v v2 (l.length + 1) (vs ++ [.int .i64 to, bv]) (w1.alloc o) w2 p) (hlen : b.length ≤ 200) (hroom : l.length < 1000) :
    ∃ F', Net g (l ++ [(to, b)]) F' (w2.setCell ⟨g, 0, none⟩ v2) ∧ Keep F w (w2.setCell ⟨g, 0, none⟩ v2) ∧ (∀ k, F' k → F k ∨ w.heap.size ≤ k) := by
  have hg := hN.lt g hN.fg
  have ha : Keep NoB w1 (w1.alloc o) := (Keep.refl _ _).alloc _
  have hk1 : Keep (fun k => v.ownBlock = some k) (w1.alloc o) w2 := (Keep.refl _ _).grown hap.grew (fun k hk => .inl hk)
  have hk2 : Keep (fun k => v.ownBlock = some k) w w2 := ((h1.mono (fun _ h => h.elim)).grow ha).trans hk1 (fun k hk => .inl hk)
  have hgr : v.ownBlock ≠ some g := fun h => (hN.frow g h).2 rfl
  have hc2 : w2.heap[g]? = some (.cells #[v] 78 (0, 0)) := (hk2.block g hg hgr).trans hN.cell
  have hv2 : ∀ k, v2.ownBlock = some k → (v.ownBlock = some k ∨ w.heap.size ≤ k) ∧ k ≠ g := fun k hk => by
    rcases of_append hap k hk with h | h
    · exact ⟨.inl h, fun e => hgr (e ▸ h)⟩
    · have : w.heap.size ≤ k := by rw [h]; exact Nat.le_trans h1.size (by simp)
      exact ⟨.inr this, by omega⟩
  have hs : Keep (fun k => k = g) w2 (w2.setCell ⟨g, 0, none⟩ v2) := (Keep.refl (fun k => k = g) w2).setCell (p := ⟨g, 0, none⟩) (.inl rfl) v2
  have hkf : Keep (fun k => v.ownBlock = some k ∨ k = g) w (w2.setCell ⟨g, 0, none⟩ v2) := (hk2.mono (fun _ h => .inl h)).trans hs (fun k hk => .inl (.inr hk))
  have hbv : ∀ k, bv.ownBlock = some k → w.heap.size ≤ k ∧ k < w1.heap.size := fun k hk => ho.lt k hk
  have hfoot : Foot (SliceR 1 bv b.length (u8s b)) (w2.setCell ⟨g, 0, none⟩ v2) (fun k => bv.ownBlock = some k) := by
    refine (((Foot.of_own ho).keep ha (fun _ _ h => h.elim)).keep hk1 (fun k hk hv => ?_)).keep hs (fun k hk hv => ?_)
    · have := hbv k hk
      have := (hN.frow k hv).1
      have := hN.lt k this
      omega
    · have := hbv k hk
      omega
  refine ⟨fun k => (F k ∨ w.heap.size ≤ k) ∧ k < (w2.setCell ⟨g, 0, none⟩ v2).heap.size, ⟨v2, vs ++ [.int .i64 to, bv], fun k => B k ∨ bv.ownBlock = some k, ⟨heap_setCell_same v2 hc2, ?_, ?_, by simp; omega, ⟨.inl hN.fg, ?_⟩, ?_, ?_, fun k hk => hk.2⟩⟩, hkf.mono (fun k hk => hk.elim (fun h => (hN.frow k h).1) (fun h => h ▸ hN.fg)), fun k hk => hk.1⟩
  · rw [List.length_append]
    exact own_keep hap.own hs (fun k hk => (hv2 k hk).2)
  · exact GramsR.snoc (hN.grams.keep hkf (fun k hk => by have := hN.fB k hk; exact fun h => h.elim this.2.2 this.2.1)) hN.row.1 (to, b) bv hlen hfoot (fun k hk => Nat.lt_of_lt_of_le (hN.lt k (hN.fB k hk).1) hkf.size)
  · exact Nat.lt_of_lt_of_le hg hkf.size
  · intro k hk
    refine ⟨⟨(hv2 k hk).1.imp (fun h => (hN.frow k h).1) id, ?_⟩, (hv2 k hk).2⟩
    exact Nat.lt_of_lt_of_le (hap.own.lt k hk).2 hs.size
  · rintro k (hk | hk)
    · have h3 := hN.fB k hk
      refine ⟨⟨.inl h3.1, Nat.lt_of_lt_of_le (hN.lt k h3.1) hkf.size⟩, h3.2.1, fun h => ?_⟩
      rcases (hv2 k h).1 with h4 | h4
      · exact h3.2.2 h4
      · have := hN.lt k h3.1
        omega
    · have h3 := hbv k hk
      refine ⟨⟨.inr h3.1, hfoot.1 k hk⟩, by omega, fun h => ?_⟩
      rcases of_append hap k h with h4 | h4
      · have := hN.lt k (hN.frow k h4).1
        omega
      · have : (w1.alloc o).heap.size = w1.heap.size + 1 := by simp
        omega

set_option maxRecDepth 100000 in
set_option maxHeartbeats 1000000 in
theorem push_yes (g : Nat) (l : List G) (F : Nat → Prop) (w : World) (hN : Net g l F w) (to : Int) (h0 : 0 ≤ to) (h1 : to ≤ 1) (v : Value) (b : List Int) (hb : SliceR 1 v b.length (u8s b) w) (hlen : b.length ≤ 200) (hroom : l.length < 1000) :
    Calls Try.prog 16 #[.pointer (some ⟨g, 0, none⟩), .int .i64 to, v] w fun e w' => e = .returned (.bool true) ∧ ∃ F', Net g (l ++ [(to, b)]) F' w' ∧ Keep F w w' ∧ (∀ k, F' k → F k ∨ w.heap.size ≤ k) := by
  obtain ⟨rv, vs, B, hN⟩ := hN
  obtain ⟨A, n, rfl⟩ : ∃ A c, rv = .slice A l.length c := by obtain ⟨A, c, e, _⟩ := own_slice hN.row; exact ⟨A, c, e⟩
  obtain ⟨A2, c2, hv, hvc⟩ : ∃ A c, v = .slice A b.length c ∧ b.length ≤ c := by obtain ⟨A, c, e, hc, _⟩ := hb; exact ⟨A, c, e, hc⟩
  subst hv
  have hc := cell0 hN.cell
  have hz := frozen0 0 hN.cell
  have hlt := hN.lt g hN.fg
  have Hb := Lib.hid hb
  have HN := Lib.hid hN
  clear hb hN
  go_enter Try.func16, Try.ntmps16
  go_wp2_with fail
  refine region_ord [0, 1, 2, 3, 4, 5, 6, 7, 8, 9, 10, 11, 12, 13, 14, 15] [8, 10, 11, 15] [5] [11, 15] rfl (by kernel_rfl) ?_
  have hcd : w.drew.cell? ⟨g, 0, none⟩ = some (.slice A l.length n) := by simpa using hc
  iterate 8
    first
      | refine ord_pure rfl rfl rfl rfl rfl (fun _ _ _ _ h => h) ?_ ?_ ?_ ?_ ?_
      | refine ord_read rfl rfl rfl rfl rfl (fun _ _ _ _ h => h) ?_ ?_ ?_ ?_ ?_
    rotate_left 2
    · first
        | (intro w' hg; have hq := hg.cell hcd (fun h => h); go_simp; with_reducible rfl)
        | (intro w'; go_simp; with_reducible rfl)
    · simp only [Act.put, List.setIfInBounds_toArray, List.set_cons_zero, List.set_cons_succ]; rfl
  refine ord_call rfl rfl rfl rfl rfl Try.func36 rfl rfl [.slice A2 b.length c2] rfl ?_
  refine (bclone_calls _ b _ (Hb.out.grow ((Keep.refl _ _).drew)) (by omega)).mono ?_
  rintro e w1 ⟨A3, c3, rfl, ho, hgr⟩
  refine ⟨_, rfl, fun _ => hgr, ?_⟩
  simp only [Act.put, List.setIfInBounds_toArray, List.set_cons_zero, List.set_cons_succ]
  refine ord_pure rfl rfl rfl rfl rfl (fun _ _ _ _ h => h) ?_ ?_ ?_ ?_ ?_
  rotate_left 2
  · intro w'; go_simp; with_reducible rfl
  · simp only [Act.put, List.setIfInBounds_toArray, List.set_cons_zero, List.set_cons_succ]; rfl
  refine ord_new rfl rfl rfl rfl ?_ ?_ ?_ ?_ ?_ ?_
  rotate_left 3
  · go_simp; first | with_reducible rfl | (constructor <;> with_reducible rfl)
  · simp only [Act.put, List.setIfInBounds_toArray, List.set_cons_zero, List.set_cons_succ]; rfl
  refine ord_act rfl rfl (fun K hK => ?_)
  refine step_app _ rfl _ _ 74 74 rfl 0 81 (.agg #[.int .i64 0, .slice none 0 0]) 2 32 u_grams info_gram rfl (.slice A l.length n) l.length vs rfl (.slice (some ⟨w1.heap.size, 0, none⟩) 1 1) 1 [.int .i64 to, .slice A3 b.length c3] rfl ?_ (by exact own_keep HN.out.row (((Keep.refl NoB w).drew.grow hgr).alloc _) (fun _ _ h => h)) (by exact Src.ofSlice _ u_grams ⟨w1.heap.size, 0, none⟩ 1 1 _ rfl (World.news_of_block (cs := #[.int .i64 to, .slice A3 b.length c3]) (t := 81) (fr := (0, 0)) (heap_alloc_new w1 _)) (by simp [Value.oneCell'])) (by simp only [maxLen]; omega) (by omega) (Nat.zero_le _)
  intro v2 w2 hap
  obtain ⟨A4, c4, rfl, _⟩ := own_slice hap.own
  have hk2 : Keep (fun k => (Value.slice A l.length n).ownBlock = some k) w w2 := (((Keep.refl _ w).drew.grow hgr).alloc _).grown hap.grew (fun k hk => .inl hk)
  have hcw2 := hk2.cell hc (fun h => (HN.out.frow _ h).2 rfl)
  have hz2 := (hk2.frozen (p := ⟨g, 0, none⟩) hlt (fun h => (HN.out.frow _ h).2 rfl)).trans hz
  refine hK _ _ ⟨fun h => absurd (by simp) h, ?_⟩
  clear hK K
  simp only [Act.put, List.setIfInBounds_toArray, List.set_cons_zero, List.set_cons_succ]
  iterate 3
    refine ord_pure rfl rfl rfl rfl rfl (fun _ _ _ _ h => h) ?_ ?_ ?_ ?_ ?_
    rotate_left 2
    · intro w'; go_simp; with_reducible rfl
    · simp only [Act.put, List.setIfInBounds_toArray, List.set_cons_zero, List.set_cons_succ]; rfl
  refine ord_put rfl rfl rfl rfl ?_ ?_ (fun h => absurd (by simp) h) ?_
  rotate_left
  · go_simp; first | with_reducible rfl | (constructor <;> with_reducible rfl)
  refine ord_nil ?_
  go_wp2
  go_ret
  exact ⟨rfl, HN.out.pushed ((Keep.refl _ _).drew.grow hgr) ho hap hlen hroom⟩
end Go.Proofs.Ytimpnbkincgbmaa

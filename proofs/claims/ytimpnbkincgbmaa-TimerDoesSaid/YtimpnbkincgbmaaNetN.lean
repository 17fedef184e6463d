import Derived.Test.YtimpnbkincgbmaaNetM
set_option linter.unusedSimpArgs false
set_option linter.unusedVariables false
namespace Go.Proofs.Ytimpnbkincgbmaa
open Go.RowKit

theorem rbend_no (A : Option Addr) (n c : Nat) (i : Int) (A2 : Option Addr) (n2 c2 : Nat) (w : World) (h : (i < 0 ∨ n ≤ i) ∨ 200 < n2) : Calls Try.prog 41 #[.slice A n c, .int .i64 i, .slice A2 n2 c2] w fun e w' => e = .returned (.tuple #[.slice A n c, .bool false]) ∧ w = w' := by
  by_cases h0 : i < 0 ∨ n ≤ i
  · clear h
    have H0 := Lib.hid h0
    clear h0
    go_enter Try.func41, Try.ntmps41
    go_wp2_with fail
    refine (ris_no A n c i _ H0.out).mono ?_
    rintro e w' ⟨rfl, rfl⟩
    go_wp2
    go_ret2
    exact ⟨rfl, rfl⟩
  · have h1 : 0 ≤ i := by omega
    have h2 : i < n := by omega
    have h3 : (200 : Int) < n2 := by omega
    clear h h0
    go_enter Try.func41, Try.ntmps41
    go_wp2_with fail
    refine (ris_yes A n c i _ h1 h2).mono ?_
    rintro e w' ⟨rfl, rfl⟩
    go_wp2
    go_ret2
    exact ⟨rfl, rfl⟩

theorem RefIs.bent {l : List G} {v : Value} {R C : Nat → Prop} {w w1 : World} {vs : List Value} (hN : RefIs l v R w vs) {r1 c1 : Nat} (i : Nat) (hi : i < l.length) {b : List Int} {bv : Value} (hb : Foot (SliceR 1 bv b.length (u8s b)) w C) (hlen : b.length ≤ 200)
    (h1 : Grow w w1) (ho : w1.ownsRow w.heap.size 43 2 (.slice (some ⟨r1, 0, none⟩) l.length c1) l.length vs) :
    ∃ R', Ref (l.set i (l[i].1, b)) (.slice (some ⟨r1, 0, none⟩) l.length c1) R' ((w1.setCell ⟨r1, i * 2, none⟩ (.int .i64 l[i].1)).setCell ⟨r1, i * 2 + 1, none⟩ bv) ∧
      Grow w ((w1.setCell ⟨r1, i * 2, none⟩ (.int .i64 l[i].1)).setCell ⟨r1, i * 2 + 1, none⟩ bv) ∧ ∀ k, R' k → R k ∨ C k ∨ w.heap.size ≤ k := by
  have hr1 := ho.lt r1 rfl
  have ho2 := (ho.stored (i * 2) (.int .i64 l[i].1)).1
  have ho3 := (ho2.stored (i * 2 + 1) bv).1
  have hk : Grow w ((w1.setCell ⟨r1, i * 2, none⟩ (.int .i64 l[i].1)).setCell ⟨r1, i * 2 + 1, none⟩ bv) := ((h1.setCell (p := ⟨r1, i * 2, none⟩) (.inr hr1.1) _).setCell (p := ⟨r1, i * 2 + 1, none⟩) (.inr hr1.1) _)
  obtain ⟨bv0, g1, g2, g3, g4⟩ := hN.grams i l[i] (List.getElem?_eq_getElem hi)
  have hset : vs.set (i * 2) (.int .i64 l[i].1) = vs := by
    apply List.ext_getElem?
    intro j
    rw [List.getElem?_set]
    split
    · rename_i h
      subst h
      have h2 := hN.row.1
      rw [if_pos (by omega)]
      exact g1.symm
    · rfl
  rw [hset] at ho3
  refine ⟨fun k => (R k ∨ C k ∨ w.heap.size ≤ k) ∧ k < ((w1.setCell ⟨r1, i * 2, none⟩ (.int .i64 l[i].1)).setCell ⟨r1, i * 2 + 1, none⟩ bv).heap.size, ⟨vs.set (i * 2 + 1) bv, ?_, ?_, ?_, by rw [List.length_set]; exact hN.few, fun k h => h.2⟩, hk, fun k h => h.1⟩
  · rw [List.length_set]; exact own_base0 ho3
  · intro k h
    have := ho3.lt k h
    exact ⟨.inr (.inr this.1), this.2⟩
  · refine (GramsR.bend (hN.grams.keep hk (fun _ _ h => h)) hN.row.1 i hi b bv hlen (hb.grow hk) (fun k h => Nat.lt_of_lt_of_le (hN.lt k h) hk.size)).mono (fun k h => h.2) (fun k h => ?_)
    rcases h with h | h
    · exact ⟨.inl h, Nat.lt_of_lt_of_le (hN.lt k h) hk.size⟩
    · exact ⟨.inr (.inl h), Nat.lt_of_lt_of_le (hb.lt h) hk.size⟩

set_option maxRecDepth 100000 in
theorem rbend_yes (l : List G) (v : Value) (R : Nat → Prop) (i : Nat) (w : World) (hN : Ref l v R w) (hi : i < l.length) (A2 : Option Addr) (c2 : Nat) (b : List Int) (C : Nat → Prop) (hb : Foot (SliceR 1 (.slice A2 b.length c2) b.length (u8s b)) w C) (hlen : b.length ≤ 200) :
    Calls Try.prog 41 #[v, .int .i64 i, .slice A2 b.length c2] w fun e w' => ∃ v' R', e = .returned (.tuple #[v', .bool true]) ∧ Ref (l.set i (l[i].1, b)) v' R' w' ∧ Grow w w' ∧ ∀ k, R' k → R k ∨ C k ∨ w.heap.size ≤ k := by
  obtain ⟨vs, hN⟩ := hN
  have hone := hN.grams.one hN.row.1
  obtain ⟨r, c, A, n, rfl, hr, hlc, h2, h3, h4, h5, g1, g2⟩ := hN.get i hi
  have Hs := Lib.hid ((SliceR.of_own hN.row).src u_dl hone)
  have HN := Lib.hid hN
  have Hb := Lib.hid hb
  have hi' : (i : Int) < l.length := by omega
  have hfew := hN.few
  have hl0 : l.length ≠ 0 := by omega
  clear hN hb hone h4 h5 h3
  go_enter Try.func41, Try.ntmps41
  go_wp2_with fail
  refine (ris_yes _ l.length c i _ (by omega) hi').mono ?_
  rintro e w' ⟨rfl, rfl⟩
  go_wp2_with (at_builtin; refine wpList_app _ rfl _ _ 37 37 rfl w.heap.size 43 (.agg #[.int .i64 0, .slice none 0 0]) 2 32 u_dl info_d rfl (.slice none 0 0) 0 [] rfl (.slice (some ⟨r, 0, none⟩) l.length c) l.length vs rfl ?_ (by exact World.ownsRow_nil _ _ _ _) (by exact Hs.out) (by simp only [maxLen]; omega) (by omega) (by exact Nat.le_refl _); intro v1 w1 hap; refine Hid.out ?_)
  refine Lib.hid ?_
  have ho := hap.own
  simp only [Nat.zero_add, List.nil_append] at ho
  have hg1 : Grow w w1 := (Keep.refl NoB w).grown hap.grew (by simp [Value.ownBlock])
  obtain ⟨r1, c1, rfl, hr1, hc1, hcs⟩ := own_cells ho (by omega)
  clear hap
  have h2' := hg1.cell h2 (fun h => h)
  have hz0 : w1.frozen? ⟨r1, i * 2, none⟩ = false := ho.frozenAt _
  have hc0 : w1.cell? ⟨r1, i * 2, none⟩ = some (.int .i64 l[i].1) := by have := hcs _ _ g1; simpa using this
  have ho2 := (ho.stored (i * 2) (.int .i64 l[i].1)).1
  have hz1 : (w1.setCell ⟨r1, i * 2, none⟩ (.int .i64 l[i].1)).frozen? ⟨r1, i * 2 + 1, none⟩ = false := ho2.frozenAt _
  have hc1 : (w1.setCell ⟨r1, i * 2, none⟩ (.int .i64 l[i].1)).cell? ⟨r1, i * 2 + 1, none⟩ = some (.slice A l[i].2.length n) := by
    obtain ⟨r2, c2, hv2, _, _, hcs2⟩ := own_cells ho2 (by omega)
    injection hv2 with hv2
    injection hv2 with hv2
    injection hv2 with hv2
    subst hv2
    have := hcs2 (i * 2 + 1) _ (by rw [List.getElem?_set_ne (by omega)]; exact g2)
    simpa using this
  clear hcs ho2 g1 g2
  have Ho := Lib.hid ho
  have Hg1 := Lib.hid hg1
  clear ho hg1 h2
  go_wp2
  go_ret2
  obtain ⟨R', q1, q2, q3⟩ := HN.out.bent i hi Hb.out hlen Hg1.out Ho.out
  exact ⟨_, R', rfl, q1, q2, q3⟩

/-- The cells of a list without its element j. -/
def er (vs : List Value) (j : Nat) : List Value := vs.take (j * 2) ++ vs.drop ((j + 1) * 2)
theorem er_succ_eq {vs : List Value} {k : Nat} (h : (k + 1) * 2 ≤ vs.length) : er (vs.take ((k + 1) * 2)) k = er (vs.take (k * 2)) k := by
  unfold er
  rw [List.take_take, List.take_take, List.drop_eq_nil_of_le (by rw [List.length_take]; omega), List.drop_eq_nil_of_le (by rw [List.length_take]; omega)]
  congr 2
  omega
theorem er_succ_ne {vs : List Value} {k j : Nat} {a b : Value} (ha : vs[k * 2]? = some a) (hb : vs[k * 2 + 1]? = some b) (hj : k ≠ j) : er (vs.take ((k + 1) * 2)) j = er (vs.take (k * 2)) j ++ [a, b] := by
  have h1 : k * 2 + 1 < vs.length := (List.getElem?_eq_some_iff.1 hb).1
  have ht : vs.take ((k + 1) * 2) = vs.take (k * 2) ++ [a, b] := by
    rw [show (k + 1) * 2 = k * 2 + 1 + 1 from by omega, List.take_add_one, List.take_add_one, ha, hb]
    simp
  rw [ht]
  have hX : (vs.take (k * 2)).length = k * 2 := by rw [List.length_take]; omega
  generalize vs.take (k * 2) = X at *
  unfold er
  rcases Nat.lt_or_ge j k with h | h
  · rw [List.take_append_of_le_length (by omega), List.drop_append_of_le_length (by omega), List.append_assoc]
  · have e1 : (X ++ [a, b]).take (j * 2) = X ++ [a, b] := List.take_of_length_le (by simp [hX]; omega)
    have e2 : (X ++ [a, b]).drop ((j + 1) * 2) = [] := List.drop_eq_nil_of_le (by simp [hX]; omega)
    have e3 : X.take (j * 2) = X := List.take_of_length_le (by omega)
    have e4 : X.drop ((j + 1) * 2) = [] := List.drop_eq_nil_of_le (by omega)
    rw [e1, e2, e3, e4]
    simp
theorem len_erase_eq {l : List G} {k : Nat} (h : k < l.length) : ((l.take (k + 1)).eraseIdx k).length = ((l.take k).eraseIdx k).length := by
  rw [List.length_eraseIdx, List.length_eraseIdx, List.length_take, List.length_take]
  split <;> split <;> omega
theorem len_erase_ne {l : List G} {k j : Nat} (h : k < l.length) (hj : k ≠ j) : ((l.take (k + 1)).eraseIdx j).length = ((l.take k).eraseIdx j).length + 1 := by
  rw [List.length_eraseIdx, List.length_eraseIdx, List.length_take, List.length_take]
  split <;> split <;> omega
theorem len_erase_le {l : List G} {k j : Nat} : ((l.take k).eraseIdx j).length ≤ l.length := by
  rw [List.length_eraseIdx, List.length_take]
  split <;> omega

set_option maxRecDepth 100000 in
theorem rdrop_calls (l : List G) (v : Value) (R : Nat → Prop) (i : Int) (j : Nat) (w : World) (hN : Ref l v R w) (hj : i = j ∨ j = l.length ∧ (i < 0 ∨ l.length ≤ i)) :
    Calls Try.prog 39 #[v, .int .i64 i] w fun e w' => ∃ v' R', e = .returned v' ∧ Ref (l.eraseIdx j) v' R' w' ∧ Grow w w' ∧ ∀ k, R' k → R k ∨ w.heap.size ≤ k := by
  obtain ⟨vs, hN⟩ := hN
  obtain ⟨A, n, rfl, _⟩ := own_slice hN.row
  have hfew := hN.few
  have HN := Lib.hid hN
  have Hj := Lib.hid hj
  clear hN hj
  go_enter Try.func39, Try.ntmps39
  go_wp2
  go_loopw [5, 6] (fun vo v wr => ∃ k : Nat, k ≤ l.length ∧ v = .int .i64 k ∧ ∃ A4 c4, vo = .slice A4 ((l.take k).eraseIdx j).length c4 ∧ Hid (Grow w wr ∧ wr.ownsRow w.heap.size 43 2 (.slice A4 ((l.take k).eraseIdx j).length c4) ((l.take k).eraseIdx j).length (er (vs.take (k * 2)) j))) (fun _ v _ => l.length - (intOf v).toNat)
  case atStart => exact ⟨0, by omega, rfl, none, 0, by simp, Keep.refl _ _, by simpa [er] using World.ownsRow_nil w w.heap.size 43 2⟩
  case round =>
    obtain ⟨k, hk, rfl, A4, c4, rfl, HS⟩ := hrel
    by_cases hlt : k < l.length
    · obtain ⟨r, c, A5, n5, hv, hr, hlc, h2, h3, h4, h5, g1, g2⟩ := HN.out.get k hlt
      injection hv with hv1 hv2 hv3
      subst hv1
      subst hv3
      have h2' := HS.out.1.cell h2 (fun h => h)
      have h3' := HS.out.1.cell h3 (fun h => h)
      have hw : IntKind.i64.wrap ((k : Int) + 1) = (k : Int) + 1 := IntWalk.i64_in _ (by omega)
      have hlt' : (k : Int) < l.length := by omega
      by_cases hkj : k = j
      · subst hkj
        have hki : i = k := by rcases Hj.out with h | h <;> omega
        subst hki
        clear h2 h3 h4 h5 g1 g2
        have HS' : Hid (Grow w wr ∧ wr.ownsRow w.heap.size 43 2 (.slice A4 ((l.take (k + 1)).eraseIdx k).length c4) ((l.take (k + 1)).eraseIdx k).length (er (vs.take ((k + 1) * 2)) k)) := by
          rw [len_erase_eq hlt, er_succ_eq (by rw [HN.out.row.1]; omega)]; exact HS
        rw [← len_erase_eq hlt]
        go_wp2
        go_roundw
        case rel => exact ⟨k + 1, by omega, by go_num, A4, c4, rfl, HS'⟩
        case measure => simp [intOf]; omega
      · have hki : ¬ (i = k) := by rcases Hj.out with h | h <;> omega
        have hki2 : ¬ ((k : Int) = i) := by omega
        have hle : ((l.take k).eraseIdx j).length ≤ l.length := len_erase_le
        have hne := Lib.hid (len_erase_ne hlt hkj)
        have her := Lib.hid (er_succ_ne g1 g2 hkj)
        generalize ((l.take k).eraseIdx j).length = m at *
        generalize er (vs.take (k * 2)) j = xs at *
        clear h2 h3 h4 h5 g1 g2
        go_wp2_with (at_builtin; refine wpList_app _ rfl _ _ 37 37 rfl w.heap.size 43 (.agg #[.int .i64 0, .slice none 0 0]) 2 32 u_dl info_d rfl (.slice A4 m c4) m xs rfl (.slice (some ⟨wr.heap.size, 0, none⟩) 1 1) 1 [.int .i64 l[k].1, .slice A5 l[k].2.length n5] rfl ?_ (by exact own_keep HS.out.2 ((Keep.refl NoB wr).alloc _) (fun _ _ h => h)) (by exact Src.ofSlice _ u_dl ⟨wr.heap.size, 0, none⟩ 1 1 _ rfl (World.news_of_block (cs := #[.int .i64 l[k].1, .slice A5 l[k].2.length n5]) (t := 43) (fr := (0, 0)) (heap_alloc_new wr _)) (by simp [Value.oneCell'])) (by simp only [maxLen]; omega) (by omega) (by have := HS.out.1.size; simp; omega); intro v2 w2 hap; refine Hid.out ?_)
        refine Lib.hid ?_
        have Hg2 : Hid (Grow w w2) := ((((HS.out.1.mono (T := fun k => w.heap.size ≤ k) (fun _ h => h.elim)).alloc _).grown hap.grew (fun k hk => .inl (HS.out.2.lt k hk).1))).new (fun _ h => h)
        have Ho2 := Lib.hid hap.own
        obtain ⟨A6, c6, rfl, _⟩ := own_slice hap.own
        clear hap
        rw [← her.out] at Ho2
        rw [← hne.out] at Ho2
        rw [← hne.out]
        go_wp2
        go_roundw
        case rel => exact ⟨k + 1, by omega, by go_num, A6, c6, rfl, Hg2.out, Ho2.out⟩
        case measure => simp [intOf]; omega
    · obtain rfl : k = l.length := by omega
      have hlt' : ¬ ((l.length : Int) < l.length) := by omega
      go_wp2
      go_ret
      obtain ⟨hg, ho⟩ := HS.out
      rw [List.take_length, show vs.take (l.length * 2) = vs from List.take_of_length_le (by rw [HN.out.row.1]; exact Nat.le_refl _)] at ho
      refine ⟨.slice A4 (l.eraseIdx j).length c4, rfl, fun k => (R k ∨ w.heap.size ≤ k) ∧ k < wr.heap.size, ⟨er vs j, ?_, ?_, ?_, ?_, fun k h => h.2⟩, hg, fun k h => h.1⟩
      · exact own_base0 ho
      · intro k h
        have := ho.lt k h
        exact ⟨.inr this.1, this.2⟩
      · have hk := HN.out.grams.keep hg (fun _ _ h => h)
        have hR : ∀ k, R k → k < wr.heap.size := fun k h => Nat.lt_of_lt_of_le (HN.out.lt k h) hg.size
        rcases Nat.lt_or_ge j l.length with h | h
        · exact (GramsR.erase hk HN.out.row.1 j h).mono (fun k h => h.2) (fun k h => ⟨.inl h, hR k h⟩)
        · have e : er vs j = vs := by
            unfold er
            rw [List.take_of_length_le (by rw [HN.out.row.1]; omega), List.drop_eq_nil_of_le (by rw [HN.out.row.1]; omega), List.append_nil]
          rw [e, List.eraseIdx_of_length_le h]
          exact hk.mono (fun k h => h.2) (fun k h => ⟨.inl h, hR k h⟩)
      · have := @len_erase_le l l.length j
        rw [List.take_length] at this
        omega
end Go.Proofs.Ytimpnbkincgbmaa

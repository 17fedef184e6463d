import Derived.Test.YtimpnbkincgbmaaTmB
set_option linter.unusedSimpArgs false
set_option linter.unusedVariables false
namespace Go.Proofs.Ytimpnbkincgbmaa
open Go.RowKit

theorem load_items (q : Nat) (A : Option Addr) (n c : Nat) (w : World) (h : w.cell? ⟨q, 0, none⟩ = some (.slice A n c)) : (loadVar 91 ⟨q, 0, none⟩).run Try.prog w = .ok (.slice A n c) w := by
  go_simp
theorem meth_len (q : Nat) (A : Option Addr) (n c : Nat) (w : World) (h : w.cell? ⟨q, 0, none⟩ = some (.slice A n c)) : (method 237 98 (.pointer (some ⟨q, 0, none⟩)) "Len").run Try.prog w = .ok (72, .slice A n c) w := by
  have e : (method 237 98 (.pointer (some ⟨q, 0, none⟩)) "Len").run Try.prog w = (do let x ← loadVar 91 ⟨q, 0, none⟩; pure (72, x)).run Try.prog w := by kernel_rfl
  rw [e]
  simp [Sem.run_bind, load_items q A n c w h]
theorem meth_less (q : Nat) (A : Option Addr) (n c : Nat) (w : World) (h : w.cell? ⟨q, 0, none⟩ = some (.slice A n c)) : (method 237 98 (.pointer (some ⟨q, 0, none⟩)) "Less").run Try.prog w = .ok (73, .slice A n c) w := by
  have e : (method 237 98 (.pointer (some ⟨q, 0, none⟩)) "Less").run Try.prog w = (do let x ← loadVar 91 ⟨q, 0, none⟩; pure (73, x)).run Try.prog w := by kernel_rfl
  rw [e]
  simp [Sem.run_bind, load_items q A n c w h]
theorem meth_swap (q : Nat) (A : Option Addr) (n c : Nat) (w : World) (h : w.cell? ⟨q, 0, none⟩ = some (.slice A n c)) : (method 237 98 (.pointer (some ⟨q, 0, none⟩)) "Swap").run Try.prog w = .ok (74, .slice A n c) w := by
  have e : (method 237 98 (.pointer (some ⟨q, 0, none⟩)) "Swap").run Try.prog w = (do let x ← loadVar 91 ⟨q, 0, none⟩; pure (74, x)).run Try.prog w := by kernel_rfl
  rw [e]
  simp [Sem.run_bind, load_items q A n c w h]
theorem meth_pop (q : Nat) (w : World) : (method 237 98 (.pointer (some ⟨q, 0, none⟩)) "Pop").run Try.prog w = .ok (78, .pointer (some ⟨q, 0, none⟩)) w := by kernel_rfl
theorem meth_push (q : Nat) (w : World) : (method 237 98 (.pointer (some ⟨q, 0, none⟩)) "Push").run Try.prog w = .ok (79, .pointer (some ⟨q, 0, none⟩)) w := by kernel_rfl
theorem assert_item (v : Value) (w : World) : (Instr.typeAssert (.iface 94 v) 20 94 false).run Try.prog w = .ok v w := by kernel_rfl

theorem Arr.popped {q m : Nat} {a : Nat → It} {r c : Nat} {mv : Value} {F : Nat → Prop} {w : World} (h : Arr q (m + 1) a (.slice (some ⟨r, 0, none⟩) (m + 1) c) mv F w) :
    Arr q m a (.slice (some ⟨r, 0, none⟩) m c) mv F (w.setCell ⟨q, 0, none⟩ (.slice (some ⟨r, 0, none⟩) m c)) ∧ Keep F w (w.setCell ⟨q, 0, none⟩ (.slice (some ⟨r, 0, none⟩) m c)) := by
  have hk : Keep (fun k => k = q) w (w.setCell ⟨q, 0, none⟩ (.slice (some ⟨r, 0, none⟩) m c)) := (Keep.refl (fun k => k = q) w).setCell (p := ⟨q, 0, none⟩) (.inl rfl) _
  have hrow : w.ownsRow 0 94 1 (.slice (some ⟨r, 0, none⟩) m c) m (ptrs m a) := by
    obtain ⟨h1, h2⟩ := h.row
    refine ⟨by simp [ptrs_length], ?_⟩
    rcases h2 with ⟨h2, _⟩ | ⟨g, cap, cur, hv, hb, hg, hn, hm, hs, ht⟩
    · cases h2
    · injection hv with hv1 hv2 hv3
      subst hv3
      refine .inr ⟨g, c, cur, by rw [hv1], hb, hg, by omega, hm, hs, ?_⟩
      have : ptrs m a = (ptrs (m + 1) a).take m := by simp [ptrs, List.range_succ, List.take_append_of_le_length]
      rw [this, ← ht, List.take_take]
      congr 1
      omega
  refine ⟨⟨?_, own_keep hrow hk (fun k hk2 hq => (h.frow k hk2).2 hq), fun i hi => (hk.block _ (h.lt _ (h.fit i (by omega)).1) (h.fit i (by omega)).2.1).trans (h.item i (by omega)), fun i j hi hj => h.inj i j (by omega) (by omega), by have := h.few; omega, h.fq, h.frow, fun i hi => h.fit i (by omega), fun k hF => Nat.lt_of_lt_of_le (h.lt k hF) hk.size⟩, hk.mono (fun k hq => hq ▸ h.fq)⟩
  simp only [World.setCell, Array.getElem?_modify]
  simp [h.cell]

set_option maxRecDepth 100000 in
theorem pop_calls (q m : Nat) (a : Nat → It) (v mv : Value) (F : Nat → Prop) (w : World) (h : Arr q (m + 1) a v mv F w) :
    Calls Try.prog 78 #[.pointer (some ⟨q, 0, none⟩)] w fun e w' => ∃ x v', e = .returned x ∧ Arr q m a v' mv F w' ∧ Keep F w w' := by
  obtain ⟨r, c, rfl, hr, hnc, i0, _⟩ := h.get m (by omega)
  have hc : w.cell? ⟨q, 0, none⟩ = some (.slice (some ⟨r, 0, none⟩) (m + 1) c) := by rw [cell_of_row w q 0 _ _ _ h.cell]; rfl
  have hz : w.frozen? ⟨q, 0, none⟩ = false := frozen0 0 h.cell
  have hfew := h.few
  have hw : IntKind.i64.wrap (((m + 1 : Nat) : Int) - 1) = (m : Int) := by rw [show (((m + 1 : Nat) : Int) - 1) = (m : Int) from by omega]; exact IntWalk.i64_in _ (by omega)
  have H := Lib.hid h
  clear h
  go_enter Try.func78, Try.ntmps78
  go_wp2
  go_ret
  exact ⟨_, _, rfl, H.out.popped.1, H.out.popped.2⟩

theorem ptrs_snoc (n : Nat) (a : Nat → It) (x : It) : ptrs (n + 1) (fun i => if i = n then x else a i) = ptrs n a ++ [.pointer (some ⟨x.b, 0, none⟩)] := by
  simp only [ptrs, List.range_succ, List.map_append, List.map_cons, List.map_nil, if_true]
  congr 1
  apply List.map_congr_left
  intro i hi
  have : i < n := by simpa using hi
  rw [if_neg (by omega)]
theorem setCell_cells2 {w : World} {g T : Nat} {x y : Value} (u : Value) (h : w.heap[g]? = some (.cells #[x, y] T (0, 0))) : (w.setCell ⟨g, 0, none⟩ u).heap[g]? = some (.cells #[u, y] T (0, 0)) := by
  simp only [World.setCell, Array.getElem?_modify]
  simp [h]

theorem Arr.pushed {q n : Nat} {a : Nat → It} {v v2 mv : Value} {F : Nat → Prop} {w w2 : World} {o : Obj} {p : Prop} (h : Arr q n a v mv F w) {x : It} {z : Int} (hx : w.heap[x.b]? = some (.cells #[.int .i64 x.k, .int .i64 x.t, .int .i64 z] 96 (0, 0))) (hF : ¬ F x.b) (hn : n < 1000)
    (hap : Apped 0 94 1 v v2 (n + 1) (ptrs n a ++ [.pointer (some ⟨x.b, 0, none⟩)]) ((w.setCell ⟨x.b, 2, none⟩ (.int .i64 n)).alloc o) w2 p) :
    ∃ F', Arr q (n + 1) (fun i => if i = n then x else a i) v2 mv F' (w2.setCell ⟨q, 0, none⟩ v2) ∧ Keep (fun k => F k ∨ k = x.b) w (w2.setCell ⟨q, 0, none⟩ v2) ∧ ∀ k, F' k → F k ∨ k = x.b ∨ w.heap.size ≤ k := by
  have hq := h.lt q h.fq
  have hxl : x.b < w.heap.size := (Array.getElem?_eq_some_iff.1 hx).1
  have hqx : q ≠ x.b := fun e => hF (e ▸ h.fq)
  have hs1 : (w.setCell ⟨x.b, 2, none⟩ (.int .i64 n)).heap.size = w.heap.size := by simp [World.setCell]
  have k0 : Keep (fun k => k = x.b) w ((w.setCell ⟨x.b, 2, none⟩ (.int .i64 n)).alloc o) := ((Keep.refl (fun k => k = x.b) w).setCell (p := ⟨x.b, 2, none⟩) (.inl rfl) _).alloc o
  have k1 : Keep (fun k => v.ownBlock = some k) ((w.setCell ⟨x.b, 2, none⟩ (.int .i64 n)).alloc o) w2 := (Keep.refl _ _).grown hap.grew (fun k hk => .inl hk)
  have k2 : Keep (fun k => k = q) w2 (w2.setCell ⟨q, 0, none⟩ v2) := (Keep.refl (fun k => k = q) w2).setCell (p := ⟨q, 0, none⟩) (.inl rfl) v2
  have hvx : v.ownBlock ≠ some x.b := fun e => hF (h.frow _ e).1
  have hvq : v.ownBlock ≠ some q := fun e => (h.frow _ e).2 rfl
  have k02 : Keep (fun k => k = x.b ∨ v.ownBlock = some k) w w2 := (k0.mono (fun _ h => .inl h)).trans k1 (fun k hk => .inl (.inr hk))
  have kf : Keep (fun k => k = x.b ∨ v.ownBlock = some k ∨ k = q) w (w2.setCell ⟨q, 0, none⟩ v2) := (k02.mono (fun k hk => hk.elim .inl (fun h => .inr (.inl h)))).trans k2 (fun k hk => .inl (.inr (.inr hk)))
  have hv2 : ∀ k, v2.ownBlock = some k → (v.ownBlock = some k ∨ w.heap.size ≤ k) := fun k hk => by
    rcases of_append hap k hk with h | h
    · exact .inl h
    · refine .inr ?_
      rw [h]
      simp [hs1]
  have hqc : w2.heap[q]? = some (.cells #[v, mv] 93 (0, 0)) := (k02.block q hq (fun h => h.elim hqx hvq)).trans h.cell
  have hxc : w2.heap[x.b]? = some (.cells #[.int .i64 x.k, .int .i64 x.t, .int .i64 n] 96 (0, 0)) := by
    refine (k1.block x.b (by simp [hs1]; omega) hvx).trans ?_
    rw [Below.heap_alloc _ _ _ (by rw [hs1]; exact hxl)]
    exact heap_setCell3 _ hx
  refine ⟨fun k => (F k ∨ k = x.b ∨ w.heap.size ≤ k) ∧ k < (w2.setCell ⟨q, 0, none⟩ v2).heap.size, ⟨setCell_cells2 _ hqc, ?_, ?_, ?_, by omega, ⟨.inl h.fq, Nat.lt_of_lt_of_le hq kf.size⟩, ?_, ?_, fun k hk => hk.2⟩, kf.mono (fun k hk => ?_), fun k hk => hk.1⟩
  · rw [ptrs_snoc]
    exact own_keep hap.own k2 (fun k hk hq2 => by
      subst hq2
      rcases hv2 _ hk with h1 | h1
      · exact hvq h1
      · omega)
  · intro i hi
    by_cases hin : i = n
    · subst hin
      simp only [if_true]
      exact (setCell_other (p := ⟨q, 0, none⟩) _ (Ne.symm hqx)).trans hxc
    · simp only [if_neg hin]
      have hfi := h.fit i (by omega)
      have := kf.block (a i).b (h.lt _ hfi.1) (fun e => by
        rcases e with e | e | e
        · exact hF (e ▸ hfi.1)
        · exact hfi.2.2 e
        · exact hfi.2.1 e)
      exact this.trans (h.item i (by omega))
  · intro i j hi hj e
    by_cases hin : i = n <;> by_cases hjn : j = n
    · omega
    · simp only [hin, if_true, if_neg hjn] at e
      exact absurd (e ▸ (h.fit j (by omega)).1) hF
    · simp only [hjn, if_true, if_neg hin] at e
      exact absurd (e ▸ (h.fit i (by omega)).1) hF
    · simp only [if_neg hin, if_neg hjn] at e
      exact h.inj i j (by omega) (by omega) e
  · intro k hk
    have hlt := Nat.lt_of_lt_of_le (hap.own.lt k hk).2 k2.size
    rcases hv2 k hk with h1 | h1
    · exact ⟨⟨.inl (h.frow k h1).1, hlt⟩, (h.frow k h1).2⟩
    · exact ⟨⟨.inr (.inr h1), hlt⟩, by omega⟩
  · intro i hi
    by_cases hin : i = n
    · simp only [hin, if_true]
      refine ⟨⟨.inr (.inl (by first | rfl | trivial)), Nat.lt_of_lt_of_le hxl kf.size⟩, Ne.symm hqx, fun e => ?_⟩
      rcases hv2 _ e with h1 | h1
      · exact hvx h1
      · omega
    · simp only [if_neg hin]
      have hfi := h.fit i (by omega)
      have := h.lt _ hfi.1
      refine ⟨⟨.inl hfi.1, Nat.lt_of_lt_of_le this kf.size⟩, hfi.2.1, fun e => ?_⟩
      rcases hv2 _ e with h1 | h1
      · exact hfi.2.2 h1
      · omega
  · rcases hk with e | e | e
    · exact .inr e
    · exact .inl (h.frow k e).1
    · exact .inl (e ▸ h.fq)

set_option maxRecDepth 100000 in
theorem hpush_calls (q n : Nat) (a : Nat → It) (v mv : Value) (F : Nat → Prop) (w : World) (h : Arr q n a v mv F w) (x : It) (z : Int) (hx : w.heap[x.b]? = some (.cells #[.int .i64 x.k, .int .i64 x.t, .int .i64 z] 96 (0, 0))) (hF : ¬ F x.b) (hn : n < 1000) :
    Calls Try.prog 79 #[.pointer (some ⟨q, 0, none⟩), .iface 94 (.pointer (some ⟨x.b, 0, none⟩))] w fun e w' => e = .returned (.tuple #[]) ∧ ∃ v' F', Arr q (n + 1) (fun i => if i = n then x else a i) v' mv F' w' ∧ Keep (fun k => F k ∨ k = x.b) w w' ∧ ∀ k, F' k → F k ∨ k = x.b ∨ w.heap.size ≤ k := by
  obtain ⟨A, c, rfl⟩ := h.slice
  have hc : w.cell? ⟨q, 0, none⟩ = some (.slice A n c) := by rw [cell_of_row w q 0 _ _ _ h.cell]; rfl
  have hz : w.frozen? ⟨q, 0, none⟩ = false := frozen0 0 h.cell
  have x2 : w.cell? ⟨x.b, 2, none⟩ = some (.int .i64 z) := by rw [cell_of_row w x.b 2 _ _ _ hx]; rfl
  have xz : w.frozen? ⟨x.b, 2, none⟩ = false := frozen0 2 hx
  have hqx : q ≠ x.b := fun e => hF (e ▸ h.fq)
  have H := Lib.hid h
  have asv := assert_item
  have hown : Hid (((w.setCell ⟨x.b, 2, none⟩ (.int .i64 n)).alloc (.cells #[.pointer (some ⟨x.b, 0, none⟩)] 94)).ownsRow 0 94 1 (.slice A n c) n (ptrs n a)) :=
    own_keep h.row (((Keep.refl (fun k => k = x.b) w).setCell (p := ⟨x.b, 2, none⟩) (.inl rfl) _).alloc _) (fun k hk e => hF (e ▸ (h.frow k hk).1))
  have hs1 : (w.setCell ⟨x.b, 2, none⟩ (.int .i64 n)).heap.size = w.heap.size := by simp [World.setCell]
  have hnew := heap_alloc_new (w.setCell ⟨x.b, 2, none⟩ (.int .i64 n)) (.cells #[.pointer (some ⟨x.b, 0, none⟩)] 94)
  rw [hs1] at hnew
  have Hnew := Lib.hid hnew
  clear h hnew
  go_enter Try.func79, Try.ntmps79
  go_wp2_with (at_builtin; refine wpList_app _ rfl _ _ 91 91 rfl 0 94 (.pointer none) 1 8 u_ips info_ip rfl (.slice A n c) n (ptrs n a) rfl (.slice (some ⟨w.heap.size, 0, none⟩) 1 1) 1 [.pointer (some ⟨x.b, 0, none⟩)] rfl ?_ (by exact hown.out) (by exact Src.ofSlice _ u_ips ⟨w.heap.size, 0, none⟩ 1 1 _ rfl (World.news_of_block (cs := #[.pointer (some ⟨x.b, 0, none⟩)]) (t := 94) (fr := (0, 0)) Hnew.out) (by simp [Value.oneCell'])) (by simp only [maxLen]; omega) (by omega) (by exact Nat.zero_le _); intro v2 w2 hap; refine Hid.out ?_)
  refine Lib.hid ?_
  have Hap := Lib.hid hap
  obtain ⟨A2, c2, rfl, _⟩ := own_slice hap.own
  have k1 : Keep (fun k => (Value.slice A n c).ownBlock = some k) ((w.setCell ⟨x.b, 2, none⟩ (.int .i64 n)).alloc (.cells #[.pointer (some ⟨x.b, 0, none⟩)] 94)) w2 := (Keep.refl _ _).grown hap.grew (fun k hk => .inl hk)
  have k2 : Keep (fun k => k = x.b ∨ (Value.slice A n c).ownBlock = some k) w w2 := ((((Keep.refl (fun k => k = x.b) w).setCell (p := ⟨x.b, 2, none⟩) (.inl rfl) _).alloc _).mono (fun _ h => .inl h)).trans k1 (fun k hk => .inl (.inr hk))
  have hd : ¬ (q = x.b ∨ (Value.slice A n c).ownBlock = some q) := fun e => e.elim hqx (fun e => (H.out.frow _ e).2 rfl)
  have hc2 := k2.cell hc hd
  have hz2 := (k2.frozen (p := ⟨q, 0, none⟩) (H.out.lt q H.out.fq) hd).trans hz
  clear hap k1 k2 hd
  go_wp2
  go_end0
  obtain ⟨F', h1, h2, h3⟩ := H.out.pushed hx hF hn Hap.out
  exact ⟨rfl, _, F', h1, h2, h3⟩
end Go.Proofs.Ytimpnbkincgbmaa

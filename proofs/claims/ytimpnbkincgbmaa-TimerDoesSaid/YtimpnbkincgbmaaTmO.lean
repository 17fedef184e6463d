import Derived.Test.YtimpnbkincgbmaaTmN
set_option linter.unusedSimpArgs false
set_option linter.unusedVariables false
namespace Go.Proofs.Ytimpnbkincgbmaa
open Go.RowKit

def okSet (l : List KT) (key : Int) : Bool := hasL l key || decide (l.length < 1000)
def rSet (l : List KT) (key at_ : Int) : List KT := if okSet l key then setL l key at_ else l

set_option maxRecDepth 100000 in
theorem tset_full {q n : Nat} {a : Nat → It} {v : Value} {mb : Nat} {F' : Nat → Prop} {w : World} (h1 : QueIs q n a v mb F' w) (key : Int) (hl : (Instr.lookup 89 (.map (some mb)) (.int .i64 key) false).run Try.prog w = .ok (.pointer none) w) (hn : 1000 ≤ n) (at_ : Int) :
    Calls Try.prog 27 #[.pointer (some ⟨q, 0, none⟩), .int .i64 key, .int .i64 at_] w fun e w' => e = .returned (.bool false) ∧ w = w' := by
  obtain ⟨A, c, rfl⟩ := h1.arr.slice
  have hc := h1.arr.cell0
  have hm := cell1 h1.arr.cell
  clear h1
  go_enter Try.func27, Try.ntmps27
  go_wp2
  go_ret
  exact ⟨rfl, rfl⟩

theorem tset_calls {q : Nat} {l : List KT} {F : Nat → Prop} {w : World} (h : Que q l F w) (key : Int) (hk : okI key) (at_ : Int) :
    Calls Try.prog 27 #[.pointer (some ⟨q, 0, none⟩), .int .i64 key, .int .i64 at_] w fun e w' => e = .returned (.bool (okSet l key)) ∧ ∃ F2, Que q (rSet l key at_) F2 w' ∧ Keep F w w' ∧ ∀ k, F2 k → F k ∨ w.heap.size ≤ k := by
  obtain ⟨n, a, v, mb, F', h1, h2, h3⟩ := h
  rcases h1.map.look hk with ⟨i, hi, rfl, hl⟩ | ⟨hno, hl⟩
  · have ho : okSet l (a i).k = true := by simp [okSet, hasL_iff.2 ⟨_, h2.mk' hi⟩]
    rw [ho, show rSet l (a i).k at_ = setL l (a i).k at_ from by simp [rSet, ho]]
    refine (tset_there h1 hi hl at_).mono ?_
    rintro e w' ⟨rfl, b, v2, hQ, hS, hK⟩
    exact ⟨rfl, F, ⟨n, b, v2, mb, F', hQ, (h2.retimed h1.kinj hi at_).same hS, h3⟩, hK.mono (fun k hF => h3 k (.inl hF)), fun k hF => .inl hF⟩
  · have hh := hasL_no (h2.none hno)
    by_cases hn : n < 1000
    · have ho : okSet l key = true := by simp [okSet, h2.len, hn]
      rw [ho, show rSet l key at_ = setL l key at_ from by simp [rSet, ho]]
      refine (tset_new h1 key hk hno hl hn at_).mono ?_
      rintro e w' ⟨rfl, b, v2, F2, x, hQ, e1, e2, hS, hK, hF⟩
      have hs := (h2.added x (by rw [e1]; exact hno)).same hS
      rw [e1, e2] at hs
      refine ⟨rfl, fun k => F2 k ∨ k = mb, ⟨n + 1, b, v2, mb, F2, hQ, hs, fun k h => h⟩, hK.mono (fun k hF => h3 k hF), fun k hk2 => ?_⟩
      rcases hk2 with e | e
      · exact (hF k e).imp (fun h => h3 k (.inl h)) id
      · exact .inl (h3 k (.inr e))
    · have ho : okSet l key = false := by simp [okSet, hh, h2.len]; omega
      rw [ho, show rSet l key at_ = l from by simp [rSet, ho]]
      refine (tset_full h1 key hl (by omega) at_).mono ?_
      rintro e w' ⟨rfl, rfl⟩
      exact ⟨rfl, F, ⟨n, a, v, mb, F', h1, h2, h3⟩, Keep.refl _ _, fun k h => .inl h⟩

theorem tdrop_nil (key : Int) (w : World) : Calls Try.prog 32 #[.pointer none, .int .i64 key] w fun e w' => e = .returned (.bool false) ∧ w = w' := by
  go_enter Try.func32, Try.ntmps32
  go_wp2
  go_ret
  exact ⟨rfl, rfl⟩
theorem tdrop_no {q n : Nat} {a : Nat → It} {v : Value} {mb : Nat} {F' : Nat → Prop} {w : World} (h1 : QueIs q n a v mb F' w) (key : Int) (hl : (Instr.lookup 89 (.map (some mb)) (.int .i64 key) false).run Try.prog w = .ok (.pointer none) w) :
    Calls Try.prog 32 #[.pointer (some ⟨q, 0, none⟩), .int .i64 key] w fun e w' => e = .returned (.bool false) ∧ w = w' := by
  have hm := cell1 h1.arr.cell
  clear h1
  go_enter Try.func32, Try.ntmps32
  go_wp2
  go_ret
  exact ⟨rfl, rfl⟩

/-- The map without a key. -/
theorem MapIs.cut {w2 : World} {mb m : Nat} {a b : Nat → It} {i : Nat} (hi : i ≤ m) {D : DataW Unit} (hs : Maps.size D = m + 1) (ht : Maps.Tidy D) (h3 : ∀ k, okI k → (∃ i, i < m + 1 ∧ (a i).k = k ∧ ∀ z, D.atKey (.int .i64 k) z = .lit (.int .u64 (a i).b)) ∨ ((∀ i, i < m + 1 → (a i).k ≠ k) ∧ ∀ z, D.atKey (.int .i64 k) z = z))
    (hok : okI (a i).k) (kinj : ∀ i j, i < m + 1 → j < m + 1 → (a i).k = (a j).k → i = j) (hS : Same (swp a i m) b m) (hown : w2.ownsMap Try.prog 3 pR mb (m + 1) (D.del (.int .i64 (a i).k))) : MapIs mb m b w2 := by
  have hhas : Maps.has D (.int .i64 (a i).k) = true := by
    rcases h3 _ hok with ⟨j, hj, e, hz⟩ | ⟨hno, _⟩
    · exact Maps.has_true_of_atKey hz
    · exact absurd rfl (hno i (by omega))
  have hsz : Maps.size (D.del (.int .i64 (a i).k)) = m := by
    have := Maps.size_del (k := .int .i64 (a i).k) ht
    rw [hhas, hs] at this
    simpa using this
  have hown2 := tight hown
  rw [hsz] at hown2
  -- the items of b are those of a but i
  have hto : ∀ j, j < m → ∃ x, x < m + 1 ∧ x ≠ i ∧ b j = a x := fun j hj => by
    obtain ⟨y, hy, e⟩ := hS.to j hj
    rw [e]
    unfold swp
    split
    · exact ⟨m, by omega, by omega, rfl⟩
    · rw [if_neg (by omega)]
      exact ⟨y, by omega, by assumption, rfl⟩
  have hof : ∀ x, x < m + 1 → x ≠ i → ∃ j, j < m ∧ b j = a x := fun x hx hne => by
    by_cases e : x = m
    · subst e
      obtain ⟨j, hj, e2⟩ := hS.of i (by omega)
      exact ⟨j, hj, by rw [← e2]; simp [swp]⟩
    · obtain ⟨j, hj, e2⟩ := hS.of x (by omega)
      exact ⟨j, hj, by rw [← e2]; simp [swp, hne, e]⟩
  refine ⟨_, hown2, hsz, fun k hk => ?_⟩
  by_cases e : k = (a i).k
  · subst e
    refine .inr ⟨fun j hj e2 => ?_, fun z => Maps.atKey_del_same z⟩
    obtain ⟨x, hx, hne, e3⟩ := hto j hj
    rw [e3] at e2
    exact hne (kinj x i hx (by omega) e2)
  · have hne : (Lit.int .i64 k) ≠ .int .i64 (a i).k := fun h => e (by injection h)
    rcases h3 k hk with ⟨j, hj, e2, hz⟩ | ⟨hno, hz⟩
    · obtain ⟨x, hx, e3⟩ := hof j hj (fun e4 => e (by rw [← e2, e4]))
      exact .inl ⟨x, hx, by rw [e3]; exact e2, fun z => by rw [Maps.atKey_del_other hne, e3]; exact hz z⟩
    · refine .inr ⟨fun j hj => ?_, fun z => by rw [Maps.atKey_del_other hne]; exact hz z⟩
      obtain ⟨x, hx, _, e3⟩ := hto j hj
      rw [e3]
      exact hno x hx

theorem QueIs.cut {q m : Nat} {a b : Nat → It} {v2 : Value} {mb : Nat} {F : Nat → Prop} {w2 : World} {i : Nat} (hi : i ≤ m) (hA : Arr q m b v2 (.map (some mb)) F w2) (hH : HeapN b m) (hM : MapIs mb m b w2) (hn : ¬ F mb) (hok : ∀ i, i < m + 1 → okI (a i).k)
    (hS : Same (swp a i m) b m) (kinj : ∀ i j, i < m + 1 → j < m + 1 → (a i).k = (a j).k → i = j) : QueIs q m b v2 mb F w2 := by
  have hto : ∀ j, j < m → ∃ x, x < m + 1 ∧ b j = a x := fun j hj => by
    obtain ⟨y, hy, e⟩ := hS.to j hj
    rw [e]
    unfold swp
    split
    · exact ⟨m, by omega, rfl⟩
    · rw [if_neg (by omega)]
      exact ⟨y, by omega, rfl⟩
  refine ⟨hA, hH, hM, hn, fun j hj => ?_, fun x y hx hy e => ?_⟩
  · obtain ⟨x, hx, e⟩ := hto j hj
    rw [e]; exact hok x hx
  · obtain ⟨x1, hx1, e1⟩ := hto x hx
    obtain ⟨y1, hy1, e2⟩ := hto y hy
    rw [e1, e2] at e
    have := kinj x1 y1 hx1 hy1 e
    subst this
    exact hA.inj x y hx hy (by rw [e1, e2])
theorem Says.cut {m : Nat} {a b : Nat → It} {l : List KT} (h : Says (m + 1) a l) {i : Nat} (hi : i ≤ m) (hS : Same (swp a i m) b m) (kinj : ∀ i j, i < m + 1 → j < m + 1 → (a i).k = (a j).k → i = j) : Says m b (delL l (a i).k) := by
  refine ⟨?_, h.nd.del _, fun x => ?_⟩
  · have := delL_length h.nd (h.mk' (i := i) (by omega))
    rw [h.len] at this
    omega
  · rw [mem_delL]
    constructor
    · rintro ⟨hx, hne⟩
      obtain ⟨j, hj, rfl⟩ := (h.mem x).1 hx
      have hji : j ≠ i := fun e => hne (by rw [e])
      by_cases e : j = m
      · subst e
        obtain ⟨y, hy, e2⟩ := hS.of i (by omega)
        exact ⟨y, hy, by rw [← e2]; simp [swp]⟩
      · obtain ⟨y, hy, e2⟩ := hS.of j (by omega)
        exact ⟨y, hy, by rw [← e2]; simp [swp, hji, e]⟩
    · rintro ⟨j, hj, rfl⟩
      obtain ⟨y, hy, e⟩ := hS.to j hj
      rw [e]
      unfold swp
      split
      · refine ⟨h.mk' (by omega), fun e2 => ?_⟩
        have := kinj m i (by omega) (by omega) e2
        omega
      · rename_i hyi
        rw [if_neg (by omega)]
        exact ⟨h.mk' (by omega), fun e2 => hyi (kinj y i (by omega) (by omega) e2)⟩

set_option maxRecDepth 100000 in
theorem tdrop_there {q m : Nat} {a : Nat → It} {v : Value} {mb : Nat} {F' : Nat → Prop} {w : World} (h1 : QueIs q (m + 1) a v mb F' w) {i : Nat} (hi : i ≤ m) (hl : (Instr.lookup 89 (.map (some mb)) (.int .i64 (a i).k) false).run Try.prog w = .ok (.pointer (some ⟨(a i).b, 0, none⟩)) w) :
    Calls Try.prog 32 #[.pointer (some ⟨q, 0, none⟩), .int .i64 (a i).k] w fun e w' => e = .returned (.bool true) ∧ ∃ b v2, QueIs q m b v2 mb F' w' ∧ Same (swp a i m) b m ∧ Keep (fun k => F' k ∨ k = mb) w w' := by
  obtain ⟨r, c, rfl, hr, hnc, i0, i1, i2, i3⟩ := h1.arr.get i (by omega)
  have hm := cell1 h1.arr.cell
  obtain ⟨D, d1, d2, d3⟩ := h1.map
  have hld : ∀ w', Grow w.drew w' → (Instr.lookup 89 (.map (some mb)) (.int .i64 (a i).k) false).run Try.prog w' = .ok (.pointer (some ⟨(a i).b, 0, none⟩)) w' := fun w' hg => by
    have h2 : MapIs mb (m + 1) a w' := h1.map.keep ((Keep.refl NoB w).drew.grow hg) (fun h => h)
    rcases h2.look (h1.okk i (by omega)) with ⟨j, hj, e, h⟩ | ⟨hno, h⟩
    · rw [h1.kinj j i hj (by omega) e] at h; exact h
    · exact absurd rfl (hno i (by omega))
  have H1 := Lib.hid h1
  have Hd1 := Lib.hid d1
  have Hd := Lib.hid (And.intro d2 d3)
  have i3' : w.drew.cell? ⟨(a i).b, 2, none⟩ = some (.int .i64 i) := by simpa using i3
  have hmd : w.drew.cell? ⟨q, 1, none⟩ = some (.map (some mb)) := by simpa using hm
  clear h1 d1 d2 d3
  go_enter Try.func32, Try.ntmps32
  go_wp2
  refine region_ord [0, 1, 2, 3, 4, 5, 6, 7, 8, 9, 10, 11, 12, 13] [13] [7, 9, 12] [13] rfl (by kernel_rfl) ?_
  iterate 7
    refine ord_pure rfl rfl rfl rfl rfl (fun _ _ _ _ h => h) ?_ ?_ ?_ ?_ ?_
    rotate_left 2
    · intro w'; go_simp; with_reducible rfl
    · simp only [Act.put, List.setIfInBounds_toArray, List.set_cons_zero, List.set_cons_succ]; rfl
  refine ord_read rfl rfl rfl rfl rfl (fun _ _ _ _ h => h) ?_ ?_ ?_ ?_ ?_
  rotate_left 2
  · intro w' hg; have q := hg.cell hmd (fun h => h); go_simp; with_reducible rfl
  · simp only [Act.put, List.setIfInBounds_toArray, List.set_cons_zero, List.set_cons_succ]; rfl
  refine ord_pure rfl rfl rfl rfl rfl (fun _ _ _ _ h => h) ?_ ?_ ?_ ?_ ?_
  rotate_left 2
  · intro w'; go_simp; with_reducible rfl
  · simp only [Act.put, List.setIfInBounds_toArray, List.set_cons_zero, List.set_cons_succ]; rfl
  refine ord_read rfl rfl rfl rfl rfl (fun _ _ _ _ h => h) ?_ ?_ ?_ ?_ ?_
  rotate_left 2
  · intro w' hg; have q := hld w' hg; go_simp; with_reducible rfl
  · simp only [Act.put, List.setIfInBounds_toArray, List.set_cons_zero, List.set_cons_succ]; rfl
  iterate 2
    refine ord_pure rfl rfl rfl rfl rfl (fun _ _ _ _ h => h) ?_ ?_ ?_ ?_ ?_
    rotate_left 2
    · intro w'; go_simp; with_reducible rfl
    · simp only [Act.put, List.setIfInBounds_toArray, List.set_cons_zero, List.set_cons_succ]; rfl
  refine ord_read rfl rfl rfl rfl rfl (fun _ _ _ _ h => h) ?_ ?_ ?_ ?_ ?_
  rotate_left 2
  · intro w' hg; have q := hg.cell i3' (fun h => h); go_simp; with_reducible rfl
  · simp only [Act.put, List.setIfInBounds_toArray, List.set_cons_zero, List.set_cons_succ]; rfl
  refine ord_call rfl rfl rfl rfl rfl Try.func46 rfl rfl [.iface 98 (.pointer (some ⟨q, 0, none⟩)), .int .i64 i] rfl ?_
  refine (remove_calls q m a _ _ F' _ (H1.out.arr.grow ((Keep.refl NoB _).drew)) H1.out.heap i hi).mono ?_
  rintro e w2 ⟨x, b, v2, rfl, hA, hH, hS, hK⟩
  have hm2 := cell1 hA.cell
  have HA := Lib.hid hA
  have HH := Lib.hid hH
  have HS := Lib.hid hS
  have hkw : Keep F' w w2 := ((Keep.refl F' w).drew).trans hK (fun i hi => .inl hi)
  have HK := Lib.hid hkw
  have Hown := Lib.hid (ownsMap_keep Hd1.out hkw H1.out.nmb)
  refine ⟨_, rfl, fun h => absurd (by simp) h, ?_⟩
  clear hA hH hS hK hkw hld
  simp only [Act.put, List.setIfInBounds_toArray, List.set_cons_zero, List.set_cons_succ]
  refine ord_nil ?_
  go_wp2_with (at_delete; refine wpList_delete_own _ rfl _ _ 89 3 rfl 94 keyed_int u_map pR mb (m + 1) D rfl (by exact Hown.out) _ _ rfl (key_int (H1.out.okk i (by omega))) ?_; intro w3 hown hturn; refine Hid.out ?_)
  refine Lib.hid ?_
  have k3 : Keep (fun k => k = mb) w2 w3 := (Keep.refl (fun k => k = mb) w2).grown hturn.grown (fun k hk => .inl (by injection hk with hk; exact hk.symm))
  have HM : Hid (MapIs mb m b w3) := MapIs.cut hi Hd.out.1 (Hd1.out.tidy keyed_int) Hd.out.2 (H1.out.okk i (by omega)) H1.out.kinj HS.out hown
  have HA3 := Lib.hid (HA.out.keep k3 (fun k hk e => H1.out.nmb (e ▸ hk)))
  have HK3 : Hid (Keep (fun k => F' k ∨ k = mb) w w3) := (HK.out.mono (fun _ h => .inl h)).trans k3 (fun k hk => .inl (.inr hk))
  clear hown hturn k3
  go_wp2
  go_ret
  exact ⟨rfl, b, v2, QueIs.cut hi HA3.out HH.out HM.out H1.out.nmb H1.out.okk HS.out H1.out.kinj, HS.out, HK3.out⟩

theorem tdrop_calls {q : Nat} {l : List KT} {F : Nat → Prop} {w : World} (h : Que q l F w) (key : Int) (hk : okI key) :
    Calls Try.prog 32 #[.pointer (some ⟨q, 0, none⟩), .int .i64 key] w fun e w' => e = .returned (.bool (hasL l key)) ∧ Que q (delL l key) F w' ∧ Keep F w w' := by
  obtain ⟨n, a, v, mb, F', h1, h2, h3⟩ := h
  rcases h1.map.look hk with ⟨i, hi, rfl, hl⟩ | ⟨hno, hl⟩
  · rw [hasL_iff.2 ⟨_, h2.mk' hi⟩]
    obtain ⟨m, rfl⟩ : ∃ m, n = m + 1 := ⟨n - 1, by omega⟩
    refine (tdrop_there h1 (by omega) hl).mono ?_
    rintro e w' ⟨rfl, b, v2, hQ, hS, hK⟩
    exact ⟨rfl, ⟨m, b, v2, mb, F', hQ, h2.cut (by omega) hS h1.kinj, h3⟩, hK.mono (fun k hF => h3 k hF)⟩
  · rw [hasL_no (h2.none hno), delL_absent (h2.none hno)]
    refine (tdrop_no h1 key hl).mono ?_
    rintro e w' ⟨rfl, rfl⟩
    exact ⟨rfl, ⟨n, a, v, mb, F', h1, h2, h3⟩, Keep.refl _ _⟩
end Go.Proofs.Ytimpnbkincgbmaa

import Derived.Test.YtfkcpaahdlkcdaaGreatM13
/-! Joined: TmO, TmP, TmQs, SnA, SnB. -/
set_option linter.unusedSimpArgs false
set_option linter.unusedVariables false
namespace Go.Proofs.YtfkcpaahdlkcdaaGreat
open Go.RowKit

def okSet (l : List KT) (key : Int) : Bool := hasL l key || decide (l.length < 1000)
def rSet (l : List KT) (key at_ : Int) : List KT := if okSet l key then setL l key at_ else l

set_option maxRecDepth 100000 in
theorem tset_full {q n : Nat} {a : Nat → It} {v : Value} {mb : Nat} {F' : Nat → Prop} {w : World} (h1 : QueIs q n a v mb F' w) (key : Int) (hl : (Instr.lookup 208 (.map (some mb)) (.int .i64 key) false).run Tryz.prog w = .ok (.pointer none) w) (hn : 1000 ≤ n) (at_ : Int) :
    Calls Tryz.prog 80 #[.pointer (some ⟨q, 0, none⟩), .int .i64 key, .int .i64 at_] w fun e w' => e = .returned (.bool false) ∧ w = w' := by
  obtain ⟨A, c, rfl⟩ := h1.arr.slice
  have hc := h1.arr.cell0
  have hm := cell1 h1.arr.cell
  clear h1
  go_enter Tryz.func80, Tryz.ntmps80
  go_wp2
  go_ret
  exact ⟨rfl, rfl⟩

theorem tset_calls {q : Nat} {l : List KT} {F : Nat → Prop} {w : World} (h : Que q l F w) (key : Int) (hk : okI key) (at_ : Int) :
    Calls Tryz.prog 80 #[.pointer (some ⟨q, 0, none⟩), .int .i64 key, .int .i64 at_] w fun e w' => e = .returned (.bool (okSet l key)) ∧ ∃ F2, Que q (rSet l key at_) F2 w' ∧ Keep F w w' ∧ ∀ k, F2 k → F k ∨ w.heap.size ≤ k := by
  obtain ⟨n, a, v, mb, F', h1, h2, h3⟩ := h
  rcases h1.map.look hk with ⟨i, hi, rfl, hl⟩ | ⟨hno, hl⟩
  · have ho : okSet l (a i).k = true := by simp [okSet, hasL_iff.2 ⟨_, h2.mk' hi⟩]
    rw [ho, show rSet l (a i).k at_ = setL l (a i).k at_ from by simp [rSet, ho]]
    refine (tset_there h1 hi hl at_).mono ?_
    rintro e w' ⟨rfl, b, v2, hQ, hS, hK⟩
    exact ⟨rfl, F, ⟨n, b, v2, mb, F', hQ, (h2.retimed h1.kinj hi at_).same hS, h3⟩, hK.mono (fun k hF => h3 k (.inl hF)), fun k hF => .inl hF⟩
  · have hh := hasL_no (h2.none hno)
    by_cases hn : n < 1000
    · have ho : okSet l key = true := by simp [okSet, h2.len, hn]
      rw [ho, show rSet l key at_ = setL l key at_ from by simp [rSet, ho]]
      refine (tset_new h1 key hk hno hl hn at_).mono ?_
      rintro e w' ⟨rfl, b, v2, F2, x, hQ, e1, e2, hS, hK, hF⟩
      have hs := (h2.added x (by rw [e1]; exact hno)).same hS
      rw [e1, e2] at hs
      refine ⟨rfl, fun k => F2 k ∨ k = mb, ⟨n + 1, b, v2, mb, F2, hQ, hs, fun k h => h⟩, hK.mono (fun k hF => h3 k hF), fun k hk2 => ?_⟩
      rcases hk2 with e | e
      · exact (hF k e).imp (fun h => h3 k (.inl h)) id
      · exact .inl (h3 k (.inr e))
    · have ho : okSet l key = false := by simp [okSet, hh, h2.len]; omega
      rw [ho, show rSet l key at_ = l from by simp [rSet, ho]]
      refine (tset_full h1 key hl (by omega) at_).mono ?_
      rintro e w' ⟨rfl, rfl⟩
      exact ⟨rfl, F, ⟨n, a, v, mb, F', h1, h2, h3⟩, Keep.refl _ _, fun k h => .inl h⟩

theorem tdrop_nil (key : Int) (w : World) : Calls Tryz.prog 149 #[.pointer none, .int .i64 key] w fun e w' => e = .returned (.bool false) ∧ w = w' := by
  go_enter Tryz.func149, Tryz.ntmps149
  go_wp2
  go_ret
  exact ⟨rfl, rfl⟩
theorem tdrop_no {q n : Nat} {a : Nat → It} {v : Value} {mb : Nat} {F' : Nat → Prop} {w : World} (h1 : QueIs q n a v mb F' w) (key : Int) (hl : (Instr.lookup 208 (.map (some mb)) (.int .i64 key) false).run Tryz.prog w = .ok (.pointer none) w) :
    Calls Tryz.prog 149 #[.pointer (some ⟨q, 0, none⟩), .int .i64 key] w fun e w' => e = .returned (.bool false) ∧ w = w' := by
  have hm := cell1 h1.arr.cell
  clear h1
  go_enter Tryz.func149, Tryz.ntmps149
  go_wp2
  go_ret
  exact ⟨rfl, rfl⟩

/-- The map without a key. -/
theorem MapIs.cut {w2 : World} {mb m : Nat} {a b : Nat → It} {i : Nat} (hi : i ≤ m) {D : DataW Unit} (hs : Maps.size D = m + 1) (ht : Maps.Tidy D) (h3 : ∀ k, okI k → (∃ i, i < m + 1 ∧ (a i).k = k ∧ ∀ z, D.atKey (.int .i64 k) z = .lit (.int .u64 (a i).b)) ∨ ((∀ i, i < m + 1 → (a i).k ≠ k) ∧ ∀ z, D.atKey (.int .i64 k) z = z))
    (hok : okI (a i).k) (kinj : ∀ i j, i < m + 1 → j < m + 1 → (a i).k = (a j).k → i = j) (hS : Same (swp a i m) b m) (hown : w2.ownsMap Tryz.prog 3 pR mb (m + 1) (D.del (.int .i64 (a i).k))) : MapIs mb m b w2 := by
  have hhas : Maps.has D (.int .i64 (a i).k) = true := by
    rcases h3 _ hok with ⟨j, hj, e, hz⟩ | ⟨hno, _⟩
    · exact Maps.has_true_of_atKey hz
    · exact absurd rfl (hno i (by omega))
  have hsz : Maps.size (D.del (.int .i64 (a i).k)) = m := by
    have := Maps.size_del (k := .int .i64 (a i).k) ht
    rw [hhas, hs] at this
    simpa using this
  have hown2 := tight hown
  rw [hsz] at hown2
  -- the items of b are those of a but i
  have hto : ∀ j, j < m → ∃ x, x < m + 1 ∧ x ≠ i ∧ b j = a x := fun j hj => by
    obtain ⟨y, hy, e⟩ := hS.to j hj
    rw [e]
    unfold swp
    split
    · exact ⟨m, by omega, by omega, rfl⟩
    · rw [if_neg (by omega)]
      exact ⟨y, by omega, by assumption, rfl⟩
  have hof : ∀ x, x < m + 1 → x ≠ i → ∃ j, j < m ∧ b j = a x := fun x hx hne => by
    by_cases e : x = m
    · subst e
      obtain ⟨j, hj, e2⟩ := hS.of i (by omega)
      exact ⟨j, hj, by rw [← e2]; simp [swp]⟩
    · obtain ⟨j, hj, e2⟩ := hS.of x (by omega)
      exact ⟨j, hj, by rw [← e2]; simp [swp, hne, e]⟩
  refine ⟨_, hown2, hsz, fun k hk => ?_⟩
  by_cases e : k = (a i).k
  · subst e
    refine .inr ⟨fun j hj e2 => ?_, fun z => Maps.atKey_del_same z⟩
    obtain ⟨x, hx, hne, e3⟩ := hto j hj
    rw [e3] at e2
    exact hne (kinj x i hx (by omega) e2)
  · have hne : (Lit.int .i64 k) ≠ .int .i64 (a i).k := fun h => e (by injection h)
    rcases h3 k hk with ⟨j, hj, e2, hz⟩ | ⟨hno, hz⟩
    · obtain ⟨x, hx, e3⟩ := hof j hj (fun e4 => e (by rw [← e2, e4]))
      exact .inl ⟨x, hx, by rw [e3]; exact e2, fun z => by rw [Maps.atKey_del_other hne, e3]; exact hz z⟩
    · refine .inr ⟨fun j hj => ?_, fun z => by rw [Maps.atKey_del_other hne]; exact hz z⟩
      obtain ⟨x, hx, _, e3⟩ := hto j hj
      rw [e3]
      exact hno x hx

theorem QueIs.cut {q m : Nat} {a b : Nat → It} {v2 : Value} {mb : Nat} {F : Nat → Prop} {w2 : World} {i : Nat} (hi : i ≤ m) (hA : Arr q m b v2 (.map (some mb)) F w2) (hH : HeapN b m) (hM : MapIs mb m b w2) (hn : ¬ F mb) (hok : ∀ i, i < m + 1 → okI (a i).k)
    (hS : Same (swp a i m) b m) (kinj : ∀ i j, i < m + 1 → j < m + 1 → (a i).k = (a j).k → i = j) : QueIs q m b v2 mb F w2 := by
  have hto : ∀ j, j < m → ∃ x, x < m + 1 ∧ b j = a x := fun j hj => by
    obtain ⟨y, hy, e⟩ := hS.to j hj
    rw [e]
    unfold swp
    split
    · exact ⟨m, by omega, rfl⟩
    · rw [if_neg (by omega)]
      exact ⟨y, by omega, rfl⟩
  refine ⟨hA, hH, hM, hn, fun j hj => ?_, fun x y hx hy e => ?_⟩
  · obtain ⟨x, hx, e⟩ := hto j hj
    rw [e]; exact hok x hx
  · obtain ⟨x1, hx1, e1⟩ := hto x hx
    obtain ⟨y1, hy1, e2⟩ := hto y hy
    rw [e1, e2] at e
    have := kinj x1 y1 hx1 hy1 e
    subst this
    exact hA.inj x y hx hy (by rw [e1, e2])
theorem Says.cut {m : Nat} {a b : Nat → It} {l : List KT} (h : Says (m + 1) a l) {i : Nat} (hi : i ≤ m) (hS : Same (swp a i m) b m) (kinj : ∀ i j, i < m + 1 → j < m + 1 → (a i).k = (a j).k → i = j) : Says m b (delL l (a i).k) := by
  refine ⟨?_, h.nd.del _, fun x => ?_⟩
  · have := delL_length h.nd (h.mk' (i := i) (by omega))
    rw [h.len] at this
    omega
  · rw [mem_delL]
    constructor
    · rintro ⟨hx, hne⟩
      obtain ⟨j, hj, rfl⟩ := (h.mem x).1 hx
      have hji : j ≠ i := fun e => hne (by rw [e])
      by_cases e : j = m
      · subst e
        obtain ⟨y, hy, e2⟩ := hS.of i (by omega)
        exact ⟨y, hy, by rw [← e2]; simp [swp]⟩
      · obtain ⟨y, hy, e2⟩ := hS.of j (by omega)
        exact ⟨y, hy, by rw [← e2]; simp [swp, hji, e]⟩
    · rintro ⟨j, hj, rfl⟩
      obtain ⟨y, hy, e⟩ := hS.to j hj
      rw [e]
      unfold swp
      split
      · refine ⟨h.mk' (by omega), fun e2 => ?_⟩
        have := kinj m i (by omega) (by omega) e2
        omega
      · rename_i hyi
        rw [if_neg (by omega)]
        exact ⟨h.mk' (by omega), fun e2 => hyi (kinj y i (by omega) (by omega) e2)⟩

set_option maxRecDepth 100000 in
theorem tdrop_there {q m : Nat} {a : Nat → It} {v : Value} {mb : Nat} {F' : Nat → Prop} {w : World} (h1 : QueIs q (m + 1) a v mb F' w) {i : Nat} (hi : i ≤ m) (hl : (Instr.lookup 208 (.map (some mb)) (.int .i64 (a i).k) false).run Tryz.prog w = .ok (.pointer (some ⟨(a i).b, 0, none⟩)) w) :
    Calls Tryz.prog 149 #[.pointer (some ⟨q, 0, none⟩), .int .i64 (a i).k] w fun e w' => e = .returned (.bool true) ∧ ∃ b v2, QueIs q m b v2 mb F' w' ∧ Same (swp a i m) b m ∧ Keep (fun k => F' k ∨ k = mb) w w' := by
  obtain ⟨r, c, rfl, hr, hnc, i0, i1, i2, i3⟩ := h1.arr.get i (by omega)
  have hm := cell1 h1.arr.cell
  obtain ⟨D, d1, d2, d3⟩ := h1.map
  have hld : ∀ w', Grow w.drew w' → (Instr.lookup 208 (.map (some mb)) (.int .i64 (a i).k) false).run Tryz.prog w' = .ok (.pointer (some ⟨(a i).b, 0, none⟩)) w' := fun w' hg => by
    have h2 : MapIs mb (m + 1) a w' := h1.map.keep ((Keep.refl NoB w).drew.grow hg) (fun h => h)
    rcases h2.look (h1.okk i (by omega)) with ⟨j, hj, e, h⟩ | ⟨hno, h⟩
    · rw [h1.kinj j i hj (by omega) e] at h; exact h
    · exact absurd rfl (hno i (by omega))
  have H1 := Lib.hid h1
  have Hd1 := Lib.hid d1
  have Hd := Lib.hid (And.intro d2 d3)
  have i3' : w.drew.cell? ⟨(a i).b, 2, none⟩ = some (.int .i64 i) := by simpa using i3
  have hmd : w.drew.cell? ⟨q, 1, none⟩ = some (.map (some mb)) := by simpa using hm
  clear h1 d1 d2 d3
  go_enter Tryz.func149, Tryz.ntmps149
  go_wp2
  refine region_ord [0, 1, 2, 3, 4, 5, 6, 7, 8, 9, 10, 11, 12, 13] [13] [7, 9, 12] [13] rfl (by kernel_rfl) ?_
  iterate 7
    refine ord_pure rfl rfl rfl rfl rfl (fun _ _ _ _ h => h) ?_ ?_ ?_ ?_ ?_
    rotate_left 2
    · intro w'; go_simp; with_reducible rfl
    · simp only [Act.put, List.setIfInBounds_toArray, List.set_cons_zero, List.set_cons_succ]; rfl
  refine ord_read rfl rfl rfl rfl rfl (fun _ _ _ _ h => h) ?_ ?_ ?_ ?_ ?_
  rotate_left 2
  · intro w' hg; have q := hg.cell hmd (fun h => h); go_simp; with_reducible rfl
  · simp only [Act.put, List.setIfInBounds_toArray, List.set_cons_zero, List.set_cons_succ]; rfl
  refine ord_pure rfl rfl rfl rfl rfl (fun _ _ _ _ h => h) ?_ ?_ ?_ ?_ ?_
  rotate_left 2
  · intro w'; go_simp; with_reducible rfl
  · simp only [Act.put, List.setIfInBounds_toArray, List.set_cons_zero, List.set_cons_succ]; rfl
  refine ord_read rfl rfl rfl rfl rfl (fun _ _ _ _ h => h) ?_ ?_ ?_ ?_ ?_
  rotate_left 2
  · intro w' hg; have q := hld w' hg; go_simp; with_reducible rfl
  · simp only [Act.put, List.setIfInBounds_toArray, List.set_cons_zero, List.set_cons_succ]; rfl
  iterate 2
    refine ord_pure rfl rfl rfl rfl rfl (fun _ _ _ _ h => h) ?_ ?_ ?_ ?_ ?_
    rotate_left 2
    · intro w'; go_simp; with_reducible rfl
    · simp only [Act.put, List.setIfInBounds_toArray, List.set_cons_zero, List.set_cons_succ]; rfl
  refine ord_read rfl rfl rfl rfl rfl (fun _ _ _ _ h => h) ?_ ?_ ?_ ?_ ?_
  rotate_left 2
  · intro w' hg; have q := hg.cell i3' (fun h => h); go_simp; with_reducible rfl
  · simp only [Act.put, List.setIfInBounds_toArray, List.set_cons_zero, List.set_cons_succ]; rfl
  refine ord_call rfl rfl rfl rfl rfl Tryz.func212 rfl rfl [.iface 231 (.pointer (some ⟨q, 0, none⟩)), .int .i64 i] rfl ?_
  refine (remove_calls q m a _ _ F' _ (H1.out.arr.grow ((Keep.refl NoB _).drew)) H1.out.heap i hi).mono ?_
  rintro e w2 ⟨x, b, v2, rfl, hA, hH, hS, hK⟩
  have hm2 := cell1 hA.cell
  have HA := Lib.hid hA
  have HH := Lib.hid hH
  have HS := Lib.hid hS
  have hkw : Keep F' w w2 := ((Keep.refl F' w).drew).trans hK (fun i hi => .inl hi)
  have HK := Lib.hid hkw
  have Hown := Lib.hid (ownsMap_keep Hd1.out hkw H1.out.nmb)
  refine ⟨_, rfl, fun h => absurd (by simp) h, ?_⟩
  clear hA hH hS hK hkw hld
  simp only [Act.put, List.setIfInBounds_toArray, List.set_cons_zero, List.set_cons_succ]
  refine ord_nil ?_
  go_wp2_with (at_delete; refine wpList_delete_own _ rfl _ _ 208 3 rfl 227 keyed_int u_map pR mb (m + 1) D rfl (by exact Hown.out) _ _ rfl (key_int (H1.out.okk i (by omega))) ?_; intro w3 hown hturn; refine Hid.out ?_)
  refine Lib.hid ?_
  have k3 : Keep (fun k => k = mb) w2 w3 := (Keep.refl (fun k => k = mb) w2).grown hturn.grown (fun k hk => .inl (by injection hk with hk; exact hk.symm))
  have HM : Hid (MapIs mb m b w3) := MapIs.cut hi Hd.out.1 (Hd1.out.tidy keyed_int) Hd.out.2 (H1.out.okk i (by omega)) H1.out.kinj HS.out hown
  have HA3 := Lib.hid (HA.out.keep k3 (fun k hk e => H1.out.nmb (e ▸ hk)))
  have HK3 : Hid (Keep (fun k => F' k ∨ k = mb) w w3) := (HK.out.mono (fun _ h => .inl h)).trans k3 (fun k hk => .inl (.inr hk))
  clear hown hturn k3
  go_wp2
  go_ret
  exact ⟨rfl, b, v2, QueIs.cut hi HA3.out HH.out HM.out H1.out.nmb H1.out.okk HS.out H1.out.kinj, HS.out, HK3.out⟩

theorem tdrop_calls {q : Nat} {l : List KT} {F : Nat → Prop} {w : World} (h : Que q l F w) (key : Int) (hk : okI key) :
    Calls Tryz.prog 149 #[.pointer (some ⟨q, 0, none⟩), .int .i64 key] w fun e w' => e = .returned (.bool (hasL l key)) ∧ Que q (delL l key) F w' ∧ Keep F w w' := by
  obtain ⟨n, a, v, mb, F', h1, h2, h3⟩ := h
  rcases h1.map.look hk with ⟨i, hi, rfl, hl⟩ | ⟨hno, hl⟩
  · rw [hasL_iff.2 ⟨_, h2.mk' hi⟩]
    obtain ⟨m, rfl⟩ : ∃ m, n = m + 1 := ⟨n - 1, by omega⟩
    refine (tdrop_there h1 (by omega) hl).mono ?_
    rintro e w' ⟨rfl, b, v2, hQ, hS, hK⟩
    exact ⟨rfl, ⟨m, b, v2, mb, F', hQ, h2.cut (by omega) hS h1.kinj, h3⟩, hK.mono (fun k hF => h3 k hF)⟩
  · rw [hasL_no (h2.none hno), delL_absent (h2.none hno)]
    refine (tdrop_no h1 key hl).mono ?_
    rintro e w' ⟨rfl, rfl⟩
    exact ⟨rfl, ⟨n, a, v, mb, F', h1, h2, h3⟩, Keep.refl _ _⟩
end Go.Proofs.YtfkcpaahdlkcdaaGreat
set_option linter.unusedSimpArgs false
set_option linter.unusedVariables false
namespace Go.Proofs.YtfkcpaahdlkcdaaGreat
open Go.RowKit

theorem lekt_trans {x y z : KT} (h : lekt x y) (k : lekt y z) : lekt x z := by unfold lekt at *; omega
theorem lekt_antisymm {x y : KT} (h : lekt x y) (k : lekt y x) : x = y := by
  unfold lekt at *
  have h1 : x.1 = y.1 := by omega
  have h2 : x.2 = y.2 := by omega
  cases x; cases y
  simp_all
def restL (l : List KT) (now : Int) : List KT := l.filter (fun x => decide (now < x.2))
/-- Those that are due: sorted, and each of them. -/
structure DueOf (l : List KT) (now : Int) (ds : List KT) : Prop where
  sorted : ds.Pairwise lekt
  nd : ND ds
  mem : ∀ x, x ∈ ds ↔ x ∈ l ∧ x.2 ≤ now
  len : ds.length + (restL l now).length = l.length
theorem sorted_unique : ∀ {a b : List KT}, a.Pairwise lekt → b.Pairwise lekt → ND a → ND b → (∀ x, x ∈ a ↔ x ∈ b) → a = b
  | [], [], _, _, _, _, _ => rfl
  | [], y :: r, _, _, _, _, h => by have := (h y).2 (by simp); cases this
  | x :: r, [], _, _, _, _, h => by have := (h x).1 (by simp); cases this
  | x :: r, y :: s, ha, hb, na, nb, h => by
    obtain ⟨a1, a2⟩ := List.pairwise_cons.1 ha
    obtain ⟨b1, b2⟩ := List.pairwise_cons.1 hb
    obtain ⟨c1, c2⟩ := List.pairwise_cons.1 na
    obtain ⟨d1, d2⟩ := List.pairwise_cons.1 nb
    have hxy : x = y := by
      rcases List.mem_cons.1 ((h x).1 (by simp)) with e | e
      · exact e
      · rcases List.mem_cons.1 ((h y).2 (by simp)) with e2 | e2
        · exact e2.symm
        · exact lekt_antisymm (a1 y e2) (b1 x e)
    subst hxy
    congr 1
    refine sorted_unique a2 b2 c2 d2 (fun z => ⟨fun hz => ?_, fun hz => ?_⟩)
    · rcases List.mem_cons.1 ((h z).1 (by simp [hz])) with e | e
      · exact absurd (e ▸ rfl) (c1 z hz)
      · exact e
    · rcases List.mem_cons.1 ((h z).2 (by simp [hz])) with e | e
      · exact absurd (e ▸ rfl) (d1 z hz)
      · exact e
theorem DueOf.unique {l : List KT} {now : Int} {a b : List KT} (h : DueOf l now a) (k : DueOf l now b) : a = b :=
  sorted_unique h.sorted k.sorted h.nd k.nd (fun x => (h.mem x).trans (k.mem x).symm)

/-- Half way. -/
structure Part (l : List KT) (now : Int) (ds l' : List KT) : Prop where
  sorted : ds.Pairwise lekt
  nd : ND ds
  nd' : ND l'
  le : ∀ x ∈ ds, ∀ y ∈ l', lekt x y
  ne : ∀ x ∈ ds, ∀ y ∈ l', x.1 ≠ y.1
  due : ∀ x ∈ ds, x.2 ≤ now
  mem : ∀ x, x ∈ l ↔ x ∈ ds ∨ x ∈ l'
  len : ds.length + l'.length = l.length
  rest : restL l' now = restL l now
theorem Part.start {l : List KT} (h : ND l) (now : Int) : Part l now [] l :=
  ⟨List.Pairwise.nil, List.Pairwise.nil, h, fun x h => (by cases h), fun x h => (by cases h), fun x h => (by cases h), fun x => by simp, by simp, rfl⟩
theorem ND.key {l : List KT} (h : ND l) {x y : KT} (hx : x ∈ l) (hy : y ∈ l) (e : x.1 = y.1) : x = y := by
  induction l with
  | nil => cases hx
  | cons z r ih =>
    obtain ⟨h1, h2⟩ := List.pairwise_cons.1 h
    rcases List.mem_cons.1 hx with e1 | e1 <;> rcases List.mem_cons.1 hy with e2 | e2
    · rw [e1, e2]
    · subst e1; exact absurd e (h1 y e2)
    · subst e2; exact absurd e.symm (h1 x e1)
    · exact ih h2 e1 e2
theorem Part.step {l : List KT} {now : Int} {ds l' : List KT} (h : Part l now ds l') {x : KT} (hx : x ∈ l') (hm : ∀ y ∈ l', lekt x y) (hn : x.2 ≤ now) : Part l now (ds ++ [x]) (delL l' x.1) := by
  refine ⟨?_, ?_, h.nd'.del _, ?_, ?_, ?_, ?_, ?_, ?_⟩
  · rw [List.pairwise_append]
    exact ⟨h.sorted, by simp, fun y hy z hz => by rw [List.mem_singleton.1 hz]; exact h.le y hy x hx⟩
  · unfold ND
    rw [List.pairwise_append]
    exact ⟨h.nd, by simp, fun y hy z hz => by rw [List.mem_singleton.1 hz]; exact h.ne y hy x hx⟩
  · intro y hy z hz
    have hz' := (mem_delL.1 hz).1
    rcases List.mem_append.1 hy with e | e
    · exact h.le y e z hz'
    · rw [List.mem_singleton.1 e]; exact hm z hz'
  · intro y hy z hz
    have hz' := mem_delL.1 hz
    rcases List.mem_append.1 hy with e | e
    · exact h.ne y e z hz'.1
    · rw [List.mem_singleton.1 e]; exact hz'.2.symm
  · intro y hy
    rcases List.mem_append.1 hy with e | e
    · exact h.due y e
    · rw [List.mem_singleton.1 e]; exact hn
  · intro y
    rw [h.mem y, List.mem_append, List.mem_singleton, mem_delL]
    constructor
    · rintro (e | e)
      · exact .inl (.inl e)
      · by_cases hk : y.1 = x.1
        · exact .inl (.inr (h.nd'.key e hx hk))
        · exact .inr ⟨e, hk⟩
    · rintro ((e | e) | e)
      · exact .inl e
      · exact .inr (e ▸ hx)
      · exact .inr e.1
  · have := delL_length (t := x.2) h.nd' hx
    have := h.len
    rw [List.length_append, List.length_singleton]
    omega
  · rw [← h.rest]
    unfold restL delL
    rw [List.filter_filter]
    apply List.filter_congr
    intro y hy
    by_cases hk : y.1 = x.1
    · have := h.nd'.key hy hx hk
      subst this
      simp; omega
    · simp [hk]
theorem Part.done {l : List KT} {now : Int} {ds l' : List KT} (h : Part l now ds l') (hx : ∀ y ∈ l', now < y.2) : DueOf l now ds ∧ l' = restL l now := by
  have hr : l' = restL l now := by
    rw [← h.rest]
    unfold restL
    rw [List.filter_eq_self.2]
    intro y hy
    simpa using hx y hy
  refine ⟨⟨h.sorted, h.nd, fun x => ⟨fun hd => ⟨(h.mem x).2 (.inl hd), h.due x hd⟩, fun ⟨h1, h2⟩ => ?_⟩, by rw [← hr]; exact h.len⟩, hr⟩
  rcases (h.mem x).1 h1 with e | e
  · exact e
  · have := hx x e; omega

def intsT (l : List Int) : List Value := l.map (Value.int .i64)
def keysV (ds : List KT) : List Value := ds.map (fun x => Value.int .i64 x.1)
theorem info_intT : (Tryz.prog.info? 3).map (fun i => (i.zero, i.size, i.bytes)) = some (some (.int .i64 0), 1, 8) := by kernel_rfl
theorem u_intsT : Tryz.prog.underlying 37 = some (.slice 3) := by kernel_rfl
def sliceLen : Value → Nat
  | .slice _ n _ => n
  | _ => 0
theorem Que.lt {q : Nat} {l : List KT} {F : Nat → Prop} {w : World} (h : Que q l F w) : q < w.heap.size := by
  obtain ⟨n, a, v, mb, F', h1, h2, h3⟩ := h
  exact h1.arr.lt q h1.arr.fq
theorem Que.nd {q : Nat} {l : List KT} {F : Nat → Prop} {w : World} (h : Que q l F w) : ND l := by
  obtain ⟨n, a, v, mb, F', h1, h2, h3⟩ := h
  exact h2.nd

theorem tdue_nil (now : Int) (w : World) : Calls Tryz.prog 76 #[.pointer none, .int .i64 now] w fun e w' => e = .returned (.slice none 0 0) ∧ w = w' := by
  go_enter Tryz.func76, Tryz.ntmps76
  go_wp2
  go_loopw [5] (fun v wr => wr = w ∧ v = .slice none 0 0) (fun v _ => 0)
  case atStart => exact ⟨rfl, rfl⟩
  case round =>
    obtain ⟨rfl, rfl⟩ := hrel
    go_wp2_with fail
    refine (tnext_nil wr).mono ?_
    rintro e w' ⟨rfl, rfl⟩
    go_wp2
    go_ret
    exact ⟨rfl, rfl⟩

structure DueSt (w : World) (q : Nat) (F : Nat → Prop) (l : List KT) (now : Int) (ds l' : List KT) (v : Value) (wr : World) : Prop where
  que : Que q l' F wr
  keep : Keep F w wr
  own : wr.ownsRow w.heap.size 3 1 v ds.length (keysV ds)
  part : Part l now ds l'

set_option maxRecDepth 100000 in
theorem tdue_calls {q : Nat} {l : List KT} {F : Nat → Prop} {w : World} (h : Que q l F w) (hF : ∀ k, F k → k < w.heap.size) (now : Int) :
    Calls Tryz.prog 76 #[.pointer (some ⟨q, 0, none⟩), .int .i64 now] w fun e w' => ∃ ds A c, e = .returned (.slice A ds.length c) ∧ DueOf l now ds ∧ Que q (restL l now) F w' ∧ Keep F w w' ∧ w'.ownsRow w.heap.size 3 1 (.slice A ds.length c) ds.length (keysV ds) := by
  have hfew := h.few
  have HS : Hid (DueSt w q F l now [] l (.slice none 0 0) w) := ⟨h, Keep.refl _ _, World.ownsRow_nil _ _ _ _, Part.start h.nd now⟩
  have HF := Lib.hid hF
  clear h hF
  go_enter Tryz.func76, Tryz.ntmps76
  go_wp2
  go_loopw [5] (fun v wr => ∃ ds l' A c, v = .slice A ds.length c ∧ Hid (DueSt w q F l now ds l' (.slice A ds.length c) wr)) (fun v _ => l.length - sliceLen v)
  case atStart => exact ⟨[], l, none, 0, rfl, HS⟩
  case round =>
    clear HS
    obtain ⟨ds, l', A, c, rfl, HS⟩ := hrel
    by_cases hnil : l' = []
    · subst hnil
      go_wp2_with fail
      refine (tnext_no HS.out.que).mono ?_
      rintro e w' ⟨rfl, rfl⟩
      go_wp2
      go_ret
      obtain ⟨h1, h2⟩ := HS.out.part.done (fun y hy => by cases hy)
      have hq := HS.out.que
      rw [h2] at hq
      exact ⟨ds, A, c, rfl, h1, hq, HS.out.keep, HS.out.own⟩
    · go_wp2_with fail
      refine (tnext_yes HS.out.que hnil).mono ?_
      rintro e w2 ⟨x, rfl, hg, hx, hm, hok⟩
      have HS2 : Hid (DueSt w q F l now ds l' (.slice A ds.length c) w2) := ⟨HS.out.que.grow hg, HS.out.keep.grow hg, own_keep HS.out.own hg (fun _ _ h => h), HS.out.part⟩
      have Hm := Lib.hid (And.intro hx hm)
      have Hok := Lib.hid hok
      clear hg hx hm HS hok
      by_cases hn : now < x.2
      · go_wp2
        go_ret
        obtain ⟨h1, h2⟩ := HS2.out.part.done (fun y hy => by
          have := Hm.out.2 y hy
          unfold lekt at this
          omega)
        have hq := HS2.out.que
        rw [h2] at hq
        exact ⟨ds, A, c, rfl, h1, hq, HS2.out.keep, HS2.out.own⟩
      · go_wp2_with fail
        refine (tdrop_calls HS2.out.que x.1 Hok.out).mono ?_
        rintro e w3 ⟨rfl, hQ3, hK3⟩
        have hlen := HS2.out.part.len
        have hl0 : 0 < l'.length := List.length_pos_iff.2 hnil
        have hown3 := own_keep HS2.out.own hK3 (fun k hk hF => by
          have := (HS2.out.own.lt k hk).1
          have := HF.out k hF
          omega)
        have Hown3 := Lib.hid (own_keep hown3 ((Keep.refl NoB w3).alloc (.cells #[.int .i64 x.1] 3)) (fun _ _ h => h))
        have HK3 := Lib.hid (HS2.out.keep.trans hK3 (fun i hi => .inl hi))
        have HQ3 := Lib.hid hQ3
        have hsz := HK3.out.size
        clear hown3 hQ3 hK3
        go_wp2_with (at_builtin; refine wpList_app _ rfl _ _ 37 37 rfl w.heap.size 3 (.int .i64 0) 1 8 u_intsT info_intT rfl (.slice A ds.length c) ds.length (keysV ds) rfl (.slice (some ⟨w3.heap.size, 0, none⟩) 1 1) 1 [.int .i64 x.1] rfl ?_ (by exact Hown3.out) (by exact Src.ofSlice _ u_intsT ⟨w3.heap.size, 0, none⟩ 1 1 _ rfl (World.news_of_block (cs := #[.int .i64 x.1]) (t := 3) (fr := (0, 0)) (heap_alloc_new w3 _)) (by simp [Value.oneCell'])) (by simp only [maxLen]; omega) (by omega) (by simp; omega); intro v4 w4 hap; refine Hid.out ?_)
        refine Lib.hid ?_
        have hk4 : Keep (fun k => w.heap.size ≤ k) w3 w4 := ((Keep.refl (fun k => w.heap.size ≤ k) w3).alloc _).grown hap.grew (fun k hk => .inl (Hown3.out.lt k hk).1)
        have hdis : ∀ k, F k → ¬ (w.heap.size ≤ k) := fun k hk h2 => by have := HF.out k hk; omega
        have e1 : (ds ++ [x]).length = ds.length + 1 := by simp
        have e2 : keysV (ds ++ [x]) = keysV ds ++ [.int .i64 x.1] := by simp [keysV]
        have HS4 : Hid (DueSt w q F l now (ds ++ [x]) (delL l' x.1) v4 w4) := ⟨HQ3.out.keep hk4 hdis, HK3.out.trans hk4 (fun i hi => .inr hi), by rw [e1, e2]; exact hap.own, HS2.out.part.step Hm.out.1 Hm.out.2 (by omega)⟩
        obtain ⟨A4, c4, rfl, _⟩ := own_slice hap.own
        clear hap hk4
        rw [← e1] at HS4 ⊢
        go_wp2
        go_roundw
        case rel => exact ⟨ds ++ [x], _, A4, c4, rfl, HS4⟩
        case measure => simp [sliceLen]; omega
end Go.Proofs.YtfkcpaahdlkcdaaGreat
set_option linter.unusedSimpArgs false
set_option linter.unusedVariables false
namespace Go.Proofs.YtfkcpaahdlkcdaaGreat
open Go.RowKit

theorem Que.mono {q : Nat} {l : List KT} {F G : Nat → Prop} {w : World} (h : Que q l F w) (hG : ∀ k, F k → G k) : Que q l G w := by
  obtain ⟨n, a, v, mb, F', h1, h2, h3⟩ := h
  exact ⟨n, a, v, mb, F', h1, h2, fun k hk => hG k (h3 k hk)⟩
theorem Que.tight {q : Nat} {l : List KT} {F : Nat → Prop} {w : World} (h : Que q l F w) : ∃ F0, Que q l F0 w ∧ (∀ k, F0 k → F k) ∧ ∀ k, F0 k → k < w.heap.size := by
  obtain ⟨n, a, v, mb, F', h1, h2, h3⟩ := h
  refine ⟨fun k => F' k ∨ k = mb, ⟨n, a, v, mb, F', h1, h2, fun k hk => hk⟩, h3, fun k hk => ?_⟩
  rcases hk with e | e
  · exact h1.arr.lt k e
  · obtain ⟨D, d1, _⟩ := h1.map
    rw [e]; exact d1.lt
theorem tdue_any {q : Nat} {l : List KT} {F : Nat → Prop} {w : World} (h : Que q l F w) (now : Int) :
    Calls Tryz.prog 76 #[.pointer (some ⟨q, 0, none⟩), .int .i64 now] w fun e w' => ∃ ds A c, e = .returned (.slice A ds.length c) ∧ DueOf l now ds ∧ Que q (restL l now) F w' ∧ Keep F w w' ∧ w'.ownsRow w.heap.size 3 1 (.slice A ds.length c) ds.length (keysV ds) := by
  obtain ⟨F0, h1, h2, h3⟩ := h.tight
  refine (tdue_calls h1 h3 now).mono ?_
  rintro e w' ⟨ds, A, c, rfl, g1, g2, g3, g4⟩
  exact ⟨ds, A, c, rfl, g1, g2.mono h2, g3.mono h2, g4⟩

/-- A queue that the call (which began in W) has made. -/
structure TSt (W : World) (q : Nat) (l : List KT) (F : Nat → Prop) (w : World) : Prop where
  que : Que q l F w
  ge : ∀ k, F k → W.heap.size ≤ k
  lt : ∀ k, F k → k < w.heap.size
  grow : Grow W w
theorem TSt.keep {W : World} {q : Nat} {l : List KT} {F S : Nat → Prop} {w w' : World} (h : TSt W q l F w) (hk : Keep S w w') (hS : ∀ k, F k → ¬ S k) (hg : ∀ k, S k → W.heap.size ≤ k) : TSt W q l F w' :=
  ⟨h.que.keep hk hS, h.ge, fun k hF => Nat.lt_of_lt_of_le (h.lt k hF) hk.size, ((h.grow.mono (fun _ h => h.elim)).trans hk (fun i hi => .inl hi) : Keep S W w').new hg⟩
theorem TSt.grow' {W : World} {q : Nat} {l : List KT} {F : Nat → Prop} {w w' : World} (h : TSt W q l F w) (hk : Grow w w') : TSt W q l F w' := h.keep hk (fun _ _ h => h) (fun _ h => h.elim)

theorem tst_new {W w : World} (hg : Grow W w) : Calls Tryz.prog 62 #[] w fun e w' => ∃ q F, e = .returned (.pointer (some ⟨q, 0, none⟩)) ∧ TSt W q [] F w' ∧ Grow w w' ∧ ∀ k, F k → w.heap.size ≤ k := by
  refine (tnew_calls w).mono ?_
  rintro e w' ⟨q, F, rfl, h1, h2, h3⟩
  exact ⟨q, F, rfl, ⟨h1, fun k hk => Nat.le_trans hg.size (h3 k hk).1, fun k hk => (h3 k hk).2, hg.grow h2⟩, h2, fun k hk => (h3 k hk).1⟩
theorem TSt.next {W : World} {q : Nat} {l l2 : List KT} {F F2 : Nat → Prop} {w w' : World} (h : TSt W q l F w) (hQ : Que q l2 F2 w') (hK : Keep F w w') (hF : ∀ k, F2 k → F k ∨ w.heap.size ≤ k) : ∃ F3, TSt W q l2 F3 w' ∧ ∀ k, F3 k → F k ∨ w.heap.size ≤ k := by
  obtain ⟨F3, h1, h2, h3⟩ := hQ.tight
  refine ⟨F3, ⟨h1, fun k hk => ?_, h3, ((h.grow.mono (fun _ h => h.elim)).trans hK (fun i hi => .inl hi) : Keep F W w').new h.ge⟩, fun k hk => hF k (h2 k hk)⟩
  rcases hF k (h2 k hk) with e | e
  · exact h.ge k e
  · exact Nat.le_trans h.grow.size e
theorem tst_set {W : World} {q : Nat} {l : List KT} {F : Nat → Prop} {w : World} (h : TSt W q l F w) (key : Int) (hk : okI key) (at_ : Int) :
    Calls Tryz.prog 80 #[.pointer (some ⟨q, 0, none⟩), .int .i64 key, .int .i64 at_] w fun e w' => e = .returned (.bool (okSet l key)) ∧ ∃ F2, TSt W q (rSet l key at_) F2 w' ∧ Keep F w w' ∧ ∀ k, F2 k → F k ∨ w.heap.size ≤ k := by
  refine (tset_calls h.que key hk at_).mono ?_
  rintro e w' ⟨rfl, F2, hQ, hK, hF⟩
  obtain ⟨F3, h1, h2⟩ := h.next hQ hK hF
  exact ⟨rfl, F3, h1, hK, h2⟩
theorem tst_drop {W : World} {q : Nat} {l : List KT} {F : Nat → Prop} {w : World} (h : TSt W q l F w) (key : Int) (hk : okI key) :
    Calls Tryz.prog 149 #[.pointer (some ⟨q, 0, none⟩), .int .i64 key] w fun e w' => e = .returned (.bool (hasL l key)) ∧ TSt W q (delL l key) F w' ∧ Keep F w w' := by
  refine (tdrop_calls h.que key hk).mono ?_
  rintro e w' ⟨rfl, hQ, hK⟩
  exact ⟨rfl, ⟨hQ, h.ge, fun k hF => Nat.lt_of_lt_of_le (h.lt k hF) hK.size, ((h.grow.mono (fun _ h => h.elim)).trans hK (fun i hi => .inl hi) : Keep F W w').new h.ge⟩, hK⟩
theorem tst_due {W : World} {q : Nat} {l : List KT} {F : Nat → Prop} {w : World} (h : TSt W q l F w) (now : Int) :
    Calls Tryz.prog 76 #[.pointer (some ⟨q, 0, none⟩), .int .i64 now] w fun e w' => ∃ ds A c, e = .returned (.slice A ds.length c) ∧ DueOf l now ds ∧ TSt W q (restL l now) F w' ∧ Keep F w w' ∧ w'.ownsRow w.heap.size 3 1 (.slice A ds.length c) ds.length (keysV ds) := by
  refine (tdue_any h.que now).mono ?_
  rintro e w' ⟨ds, A, c, rfl, g1, hQ, hK, g4⟩
  exact ⟨ds, A, c, rfl, g1, ⟨hQ, h.ge, fun k hF => Nat.lt_of_lt_of_le (h.lt k hF) hK.size, ((h.grow.mono (fun _ h => h.elim)).trans hK (fun i hi => .inl hi) : Keep F W w').new h.ge⟩, hK, g4⟩

theorem okI_of {k : Int} (h1 : -9223372036854775808 ≤ k) (h2 : k ≤ 9223372036854775807) : okI k := by
  simp [okI, Lit.wf, show IntKind.i64.min = -9223372036854775808 from rfl, show IntKind.i64.max = 9223372036854775807 from rfl, h1, h2]

end Go.Proofs.YtfkcpaahdlkcdaaGreat
set_option linter.unusedSimpArgs false
set_option linter.unusedVariables false
namespace Go.Proofs.YtfkcpaahdlkcdaaGreat
open Go.RowKit

theorem cells15 {w : World} {g T : Nat} {a0 a1 a2 a3 a4 a5 a6 a7 a8 a9 a10 a11 a12 a13 a14 : Value} (h : w.heap[g]? = some (.cells #[a0, a1, a2, a3, a4, a5, a6, a7, a8, a9, a10, a11, a12, a13, a14] T (0, 0))) : w.cell? ⟨g, 0, none⟩ = some a0 ∧ w.cell? ⟨g, 1, none⟩ = some a1 ∧ w.cell? ⟨g, 2, none⟩ = some a2 ∧ w.cell? ⟨g, 3, none⟩ = some a3 ∧ w.cell? ⟨g, 4, none⟩ = some a4 ∧ w.cell? ⟨g, 5, none⟩ = some a5 ∧ w.cell? ⟨g, 6, none⟩ = some a6 ∧ w.cell? ⟨g, 7, none⟩ = some a7 ∧ w.cell? ⟨g, 8, none⟩ = some a8 ∧ w.cell? ⟨g, 9, none⟩ = some a9 ∧ w.cell? ⟨g, 10, none⟩ = some a10 ∧ w.cell? ⟨g, 11, none⟩ = some a11 ∧ w.cell? ⟨g, 12, none⟩ = some a12 ∧ w.cell? ⟨g, 13, none⟩ = some a13 ∧ w.cell? ⟨g, 14, none⟩ = some a14 ∧ ∀ o, w.frozen? ⟨g, o, none⟩ = false :=
  ⟨World.news_of_block h 0 _ rfl, World.news_of_block h 1 _ rfl, World.news_of_block h 2 _ rfl, World.news_of_block h 3 _ rfl, World.news_of_block h 4 _ rfl, World.news_of_block h 5 _ rfl, World.news_of_block h 6 _ rfl, World.news_of_block h 7 _ rfl, World.news_of_block h 8 _ rfl, World.news_of_block h 9 _ rfl, World.news_of_block h 10 _ rfl, World.news_of_block h 11 _ rfl, World.news_of_block h 12 _ rfl, World.news_of_block h 13 _ rfl, World.news_of_block h 14 _ rfl, fun o => frozen0 o h⟩
theorem stored15_0 {w : World} {g T : Nat} {a0 a1 a2 a3 a4 a5 a6 a7 a8 a9 a10 a11 a12 a13 a14 : Value} (u : Value) (h : w.heap[g]? = some (.cells #[a0, a1, a2, a3, a4, a5, a6, a7, a8, a9, a10, a11, a12, a13, a14] T (0, 0))) : (w.setCell ⟨g, 0, none⟩ u).heap[g]? = some (.cells #[u, a1, a2, a3, a4, a5, a6, a7, a8, a9, a10, a11, a12, a13, a14] T (0, 0)) := by
  simp only [World.setCell, Array.getElem?_modify]
  simp [h]
theorem stored15_5 {w : World} {g T : Nat} {a0 a1 a2 a3 a4 a5 a6 a7 a8 a9 a10 a11 a12 a13 a14 : Value} (u : Value) (h : w.heap[g]? = some (.cells #[a0, a1, a2, a3, a4, a5, a6, a7, a8, a9, a10, a11, a12, a13, a14] T (0, 0))) : (w.setCell ⟨g, 5, none⟩ u).heap[g]? = some (.cells #[a0, a1, a2, a3, a4, u, a6, a7, a8, a9, a10, a11, a12, a13, a14] T (0, 0)) := by
  simp only [World.setCell, Array.getElem?_modify]
  simp [h]
theorem stored15_10 {w : World} {g T : Nat} {a0 a1 a2 a3 a4 a5 a6 a7 a8 a9 a10 a11 a12 a13 a14 : Value} (u : Value) (h : w.heap[g]? = some (.cells #[a0, a1, a2, a3, a4, a5, a6, a7, a8, a9, a10, a11, a12, a13, a14] T (0, 0))) : (w.setCell ⟨g, 10, none⟩ u).heap[g]? = some (.cells #[a0, a1, a2, a3, a4, a5, a6, a7, a8, a9, u, a11, a12, a13, a14] T (0, 0)) := by
  simp only [World.setCell, Array.getElem?_modify]
  simp [h]
theorem stored15_11 {w : World} {g T : Nat} {a0 a1 a2 a3 a4 a5 a6 a7 a8 a9 a10 a11 a12 a13 a14 : Value} (u : Value) (h : w.heap[g]? = some (.cells #[a0, a1, a2, a3, a4, a5, a6, a7, a8, a9, a10, a11, a12, a13, a14] T (0, 0))) : (w.setCell ⟨g, 11, none⟩ u).heap[g]? = some (.cells #[a0, a1, a2, a3, a4, a5, a6, a7, a8, a9, a10, u, a12, a13, a14] T (0, 0)) := by
  simp only [World.setCell, Array.getElem?_modify]
  simp [h]
theorem stored15_12 {w : World} {g T : Nat} {a0 a1 a2 a3 a4 a5 a6 a7 a8 a9 a10 a11 a12 a13 a14 : Value} (u : Value) (h : w.heap[g]? = some (.cells #[a0, a1, a2, a3, a4, a5, a6, a7, a8, a9, a10, a11, a12, a13, a14] T (0, 0))) : (w.setCell ⟨g, 12, none⟩ u).heap[g]? = some (.cells #[a0, a1, a2, a3, a4, a5, a6, a7, a8, a9, a10, a11, u, a13, a14] T (0, 0)) := by
  simp only [World.setCell, Array.getElem?_modify]
  simp [h]
theorem stored15_13 {w : World} {g T : Nat} {a0 a1 a2 a3 a4 a5 a6 a7 a8 a9 a10 a11 a12 a13 a14 : Value} (u : Value) (h : w.heap[g]? = some (.cells #[a0, a1, a2, a3, a4, a5, a6, a7, a8, a9, a10, a11, a12, a13, a14] T (0, 0))) : (w.setCell ⟨g, 13, none⟩ u).heap[g]? = some (.cells #[a0, a1, a2, a3, a4, a5, a6, a7, a8, a9, a10, a11, a12, u, a14] T (0, 0)) := by
  simp only [World.setCell, Array.getElem?_modify]
  simp [h]

/-- What a sender is. -/
structure Snd where
  session : Int
  sz : List Int
  sum : Nat
  ch : List (List Int)
  win : Int
  back : Int
  retry : Int
  quota : Int
  phase : Int
  err : Int
  acked : List Int
  tries : List Int
  tm : List KT
/-- Where its parts lie. -/
structure SP where
  q : Nat
  rt : Nat
  As : Option Addr
  Ac : Option Addr
  Aa : Option Addr
  cs : Nat
  cc : Nat
  ca : Nat
  ct : Nat
structure OkS (d : Snd) : Prop where
  s0 : 0 ≤ d.session
  s1 : d.session ≤ 18446744073709551615
  sum : d.sum < 4294967296
  fit : fitsB d.sz = true
  ch : d.ch.length = chunksN d.sz
  chl : ∀ x ∈ d.ch, x.length ≤ 64 ∧ ∀ c ∈ x, 0 ≤ c ∧ c ≤ 255
  conf : OkC d.win d.back d.retry d.quota
  phase : d.phase = 1 ∨ d.phase = 2 ∨ d.phase = 3
  err : 0 ≤ d.err ∧ d.err ≤ 65535
  acked : OkB d.acked
  alen : d.acked.length = (d.tries.length + 7) / 8
  tlen : d.tries.length = pagesN d.sz + d.ch.length
  tr : ∀ x ∈ d.tries, 0 ≤ x ∧ x ≤ d.retry
  tm : ∀ x ∈ d.tm, 0 ≤ x.1 ∧ x.1 < d.tries.length
/-- The blocks that a sender writes. -/
def SF (g rt : Nat) (Fq : Nat → Prop) : Nat → Prop := fun k => k = g ∨ k = rt ∨ Fq k
structure SAt (g : Nat) (p : SP) (d : Snd) (Fq G : Nat → Prop) (w : World) : Prop where
  cell : w.heap[g]? = some (.cells #[.pointer (some ⟨p.q, 0, none⟩), .int .u64 d.session, .slice p.As d.sz.length p.cs, .int .u32 (d.sum : Nat), .int .i64 (pagesN d.sz : Nat), .slice p.Ac d.ch.length p.cc, .int .i64 d.win, .int .i64 d.back, .int .i64 d.retry, .int .i64 d.quota, .int .i64 d.phase, .int .u16 d.err, .slice p.Aa d.acked.length p.ca, .slice (some ⟨p.rt, 0, none⟩) d.tries.length p.ct, .int .u64 d.session] 131 (0, 0))
  que : Que p.q d.tm Fq w
  tri : w.ownsRow 0 3 1 (.slice (some ⟨p.rt, 0, none⟩) d.tries.length p.ct) d.tries.length (ints d.tries)
  ro : Foot (fun w => SliceR 1 (.slice p.As d.sz.length p.cs) d.sz.length (ints d.sz) w ∧ RowsR .u8 d.ch (.slice p.Ac d.ch.length p.cc) w ∧ SliceR 1 (.slice p.Aa d.acked.length p.ca) d.acked.length (u8s d.acked) w) w G
  dis : g ≠ p.rt ∧ ¬ Fq g ∧ ¬ Fq p.rt ∧ ¬ G g ∧ ¬ G p.rt ∧ ∀ k, Fq k → ¬ G k
  lt : ∀ k, Fq k → k < w.heap.size
  ok : OkS d
theorem SAt.keep {g : Nat} {p : SP} {d : Snd} {Fq G S : Nat → Prop} {w w' : World} (h : SAt g p d Fq G w) (hk : Keep S w w') (hF : ∀ k, SF g p.rt Fq k → ¬ S k) (hG : ∀ k, G k → ¬ S k) : SAt g p d Fq G w' :=
  ⟨(hk.block g (Array.getElem?_eq_some_iff.1 h.cell).1 (hF g (.inl rfl))).trans h.cell, h.que.keep hk (fun k hq => hF k (.inr (.inr hq))), own_keep h.tri hk (fun k hq => by cases hq; exact hF _ (.inr (.inl rfl))), h.ro.keep hk hG, h.dis, fun k hq => Nat.lt_of_lt_of_le (h.lt k hq) hk.size, h.ok⟩
theorem SAt.grow {g : Nat} {p : SP} {d : Snd} {Fq G : Nat → Prop} {w w' : World} (h : SAt g p d Fq G w) (hk : Grow w w') : SAt g p d Fq G w' := h.keep hk (fun _ _ h => h) (fun _ _ h => h)
theorem OkS.n {d : Snd} (h : OkS d) : 2 ≤ d.tries.length ∧ d.tries.length ≤ 516 ∧ 1 ≤ pagesN d.sz ∧ pagesN d.sz ≤ 4 ∧ 1 ≤ d.ch.length ∧ d.ch.length ≤ 512 := by
  obtain ⟨h1, h2, h3, h4⟩ := fits_parts h.fit
  have h5 : 1 ≤ d.sz.sum := by
    have hf := h.fit
    unfold fitsB at hf
    simp only [decide_eq_true_eq] at hf
    have hh := hf.2.2.1
    cases hsz : d.sz with
    | nil => rw [hsz] at h1; simp at h1
    | cons x r =>
      rw [hsz] at hh h3
      have := sum_nn (l := r) (fun y hy => h3 y (List.mem_cons_of_mem _ hy))
      simp at hh ⊢
      omega
  have h6 := h.tlen
  have h7 := h.ch
  unfold chunksN at h7
  unfold pagesN at h6 ⊢
  omega

/-- A datagram's value. -/
def gramV (kind session index of : Int) (sum : Nat) (sizes body : Value) : Value := .agg #[.int .i64 kind, .int .u64 session, .int .i64 index, .int .i64 of, .int .u32 (sum : Nat), sizes, body]
set_option maxRecDepth 100000 in
set_option maxHeartbeats 2000000 in
theorem gram_calls {g : Nat} {p : SP} {d : Snd} {Fq G : Nat → Prop} {w : World} (h : SAt g p d Fq G w) (kind : Int) :
    Calls Tryz.prog 78 #[.pointer (some ⟨g, 0, none⟩), .int .i64 kind] w fun e w' => e = .returned (.agg #[.int .i64 kind, .int .u64 d.session, .int .i64 0, .int .i64 0, .int .u32 (d.sum : Nat), .slice none 0 0, .slice none 0 0]) ∧ Grow w w' := by
  have HG := Lib.hid ((Keep.refl NoB w).alloc (.cells #[.int .i64 0, .int .u64 0, .int .i64 0, .int .i64 0, .int .u32 0, .slice none 0 0, .slice none 0 0] 46))
  have H := Lib.hid (Grow.heap HG.out h.cell)
  have HC := Lib.hid (heap_alloc_new w (.cells #[.int .i64 0, .int .u64 0, .int .i64 0, .int .i64 0, .int .u32 0, .slice none 0 0, .slice none 0 0] 46))
  clear h
  go_enter Tryz.func78, Tryz.ntmps78
  go_wp2
  generalize w.alloc (.cells #[.int .i64 0, .int .u64 0, .int .i64 0, .int .i64 0, .int .u32 0, .slice none 0 0, .slice none 0 0] 46) = w1 at HG H HC ⊢
  obtain ⟨c0, c1, c2, c3, c4, c5, c6, c7, c8, c9, c10, c11, c12, c13, c14, cf⟩ := cells15 H.out
  obtain ⟨z0, z1, z2, z3, z4, z5, z6, zf⟩ := cells7 HC.out
  refine region_ord [0, 1, 2, 3, 4, 5, 6, 7, 8, 9, 10, 11] [11] [4, 9] [11] rfl (by kernel_rfl) ?_
  iterate 4
    refine ord_pure rfl rfl rfl rfl rfl (fun _ _ _ _ h => h) ?_ ?_ ?_ ?_ ?_
    rotate_left 2
    · intro w'; go_simp; with_reducible rfl
    · simp only [Act.put, List.setIfInBounds_toArray, List.set_cons_zero, List.set_cons_succ]; rfl
  refine ord_read rfl rfl rfl rfl rfl (fun _ _ _ _ h => h) ?_ ?_ ?_ ?_ ?_
  rotate_left 2
  · intro w' hg; have q := hg.cell c14 (fun h => h); go_simp; with_reducible rfl
  · simp only [Act.put, List.setIfInBounds_toArray, List.set_cons_zero, List.set_cons_succ]; rfl
  iterate 4
    refine ord_pure rfl rfl rfl rfl rfl (fun _ _ _ _ h => h) ?_ ?_ ?_ ?_ ?_
    rotate_left 2
    · intro w'; go_simp; with_reducible rfl
    · simp only [Act.put, List.setIfInBounds_toArray, List.set_cons_zero, List.set_cons_succ]; rfl
  refine ord_read rfl rfl rfl rfl rfl (fun _ _ _ _ h => h) ?_ ?_ ?_ ?_ ?_
  rotate_left 2
  · intro w' hg; have q := hg.cell c3 (fun h => h); go_simp; with_reducible rfl
  · simp only [Act.put, List.setIfInBounds_toArray, List.set_cons_zero, List.set_cons_succ]; rfl
  refine ord_pure rfl rfl rfl rfl rfl (fun _ _ _ _ h => h) ?_ ?_ ?_ ?_ ?_
  rotate_left 2
  · intro w'; go_simp; with_reducible rfl
  · simp only [Act.put, List.setIfInBounds_toArray, List.set_cons_zero, List.set_cons_succ]; rfl
  refine ord_put rfl rfl rfl rfl ?_ ?_ (fun h => absurd (by simp) h) ?_
  rotate_left
  · go_simp; with_reducible rfl
  refine ord_nil ?_
  have HS := Lib.hid (stored7 (.int .i64 kind) (.int .u64 d.session) (.int .i64 0) (.int .i64 0) (.int .u32 (d.sum : Nat)) (.slice none 0 0) (.slice none 0 0) HG.out (Nat.le_refl _) HC.out)
  obtain ⟨W2, hW2⟩ : ∃ W2, (((((((w1.setCell ⟨w.heap.size, 0, none⟩ (.int .i64 kind)).setCell ⟨w.heap.size, 1, none⟩ (.int .u64 d.session)).setCell ⟨w.heap.size, 2, none⟩ (.int .i64 0)).setCell ⟨w.heap.size, 3, none⟩ (.int .i64 0)).setCell ⟨w.heap.size, 4, none⟩ (.int .u32 (d.sum : Nat))).setCell ⟨w.heap.size, 5, none⟩ (.slice none 0 0)).setCell ⟨w.heap.size, 6, none⟩ (.slice none 0 0)) = W2 := ⟨_, rfl⟩
  rw [hW2] at HS ⊢
  clear hW2 c0 c1 c2 c3 c4 c5 c6 c7 c8 c9 c10 c11 c12 c13 c14 cf z0 z1 z2 z3 z4 z5 z6 zf
  obtain ⟨z0, z1, z2, z3, z4, z5, z6, zf⟩ := cells7 HS.out.1
  go_wp2
  refine bodyPost_ret (v := .agg #[.int .i64 kind, .int .u64 d.session, .int .i64 0, .int .i64 0, .int .u32 (d.sum : Nat), .slice none 0 0, .slice none 0 0]) ?_ rfl ⟨rfl, HS.out.2.drew⟩
  rw [results_cell1 rfl]; go_simp
end Go.Proofs.YtfkcpaahdlkcdaaGreat
set_option linter.unusedSimpArgs false
set_option linter.unusedVariables false
namespace Go.Proofs.YtfkcpaahdlkcdaaGreat
open Go.RowKit

theorem OkS.ended {d : Snd} (h : OkS d) (ph er : Int) (hp : ph = 1 ∨ ph = 2 ∨ ph = 3) (he : 0 ≤ er ∧ er ≤ 65535) : OkS { d with phase := ph, err := er, tm := [] } :=
  ⟨h.s0, h.s1, h.sum, h.fit, h.ch, h.chl, h.conf, hp, he, h.acked, h.alen, h.tlen, h.tr, fun x hx => by cases hx⟩
theorem SAt.gq {g : Nat} {p : SP} {d : Snd} {Fq G : Nat → Prop} {w : World} (h : SAt g p d Fq G w) : g < w.heap.size := (Array.getElem?_eq_some_iff.1 h.cell).1
theorem SAt.rlt {g : Nat} {p : SP} {d : Snd} {Fq G : Nat → Prop} {w : World} (h : SAt g p d Fq G w) : p.rt < w.heap.size := (h.tri.lt p.rt rfl).2
set_option maxRecDepth 100000 in
set_option maxHeartbeats 2000000 in
theorem end_calls {g : Nat} {p : SP} {d : Snd} {Fq G : Nat → Prop} {w : World} (h : SAt g p d Fq G w) (ph er : Int) (hp : ph = 1 ∨ ph = 2 ∨ ph = 3) (he : 0 ≤ er ∧ er ≤ 65535) :
    Calls Tryz.prog 77 #[.pointer (some ⟨g, 0, none⟩), .int .i64 ph, .int .u16 er] w fun e w' => (∃ v, e = .returned v) ∧ ∃ q Fq', SAt g { p with q := q } { d with phase := ph, err := er, tm := [] } Fq' G w' ∧ Keep (SF g p.rt Fq) w w' ∧ ∀ k, Fq' k → w.heap.size ≤ k := by
  have H := Lib.hid h
  have HP := Lib.hid hp
  have HE := Lib.hid he
  clear h hp he
  go_enter Tryz.func77, Tryz.ntmps77
  go_wp2_with fail
  refine (tnew_calls w).mono ?_
  rintro e w1 ⟨q, F, rfl, hQ, hg, hF⟩
  obtain ⟨c0, c1, c2, c3, c4, c5, c6, c7, c8, c9, c10, c11, c12, c13, c14, cf⟩ := cells15 (Grow.heap hg H.out.cell)
  have hK : Keep (fun k => k = g) w1 (((w1.setCell ⟨g, 10, none⟩ (.int .i64 ph)).setCell ⟨g, 11, none⟩ (.int .u16 er)).setCell ⟨g, 0, none⟩ (.pointer (some ⟨q, 0, none⟩))) :=
    (((Keep.refl (fun k => k = g) w1).setCell (p := ⟨g, 10, none⟩) (.inl rfl) _).setCell (p := ⟨g, 11, none⟩) (.inl rfl) _).setCell (p := ⟨g, 0, none⟩) (.inl rfl) _
  have hgl := H.out.gq
  have hrl := H.out.rlt
  obtain ⟨d1, d2, d3, d4, d5, d6⟩ := H.out.dis
  have HS : Hid (SAt g { p with q := q } { d with phase := ph, err := er, tm := [] } F G (((w1.setCell ⟨g, 10, none⟩ (.int .i64 ph)).setCell ⟨g, 11, none⟩ (.int .u16 er)).setCell ⟨g, 0, none⟩ (.pointer (some ⟨q, 0, none⟩)))) := by
    refine ⟨stored15_0 _ (stored15_11 _ (stored15_10 _ (Grow.heap hg H.out.cell))), hQ.keep hK (fun k hk e => by have := (hF k hk).1; omega), own_keep (own_keep H.out.tri hg (fun _ _ h => h)) hK (fun k hk e => by cases hk; exact d1 e.symm), (H.out.ro.grow hg).keep hK (fun k hk e => d4 (e ▸ hk)), ⟨d1, fun h => ?_, fun h => ?_, d4, d5, fun k hk h2 => ?_⟩, fun k hk => by have := (hF k hk).2; simpa using this, H.out.ok.ended ph er HP.out HE.out⟩
    · have := (hF _ h).1; omega
    · have := (hF p.rt h).1; omega
    · have := (hF _ hk).1; have := H.out.ro.lt h2; omega
  have HK : Hid (Keep (SF g p.rt Fq) w (((w1.setCell ⟨g, 10, none⟩ (.int .i64 ph)).setCell ⟨g, 11, none⟩ (.int .u16 er)).setCell ⟨g, 0, none⟩ (.pointer (some ⟨q, 0, none⟩)))) :=
    Lib.hid ((hg.mono (fun _ h => h.elim)).trans (hK.mono (fun k e => (.inl e : SF g p.rt Fq k))) (fun _ h => .inl h))
  have HF := Lib.hid hF
  clear hK hQ hg hF d1 d2 d3 d4 d5 d6
  go_wp2
  go_end0
  exact ⟨⟨_, rfl⟩, q, F, HS.out, HK.out, fun k hk => (HF.out k hk).1⟩

def pauseN (back tries : Int) : Int := min back (2 ^ (min tries 10).toNat)
set_option maxRecDepth 100000 in
set_option maxHeartbeats 2000000 in
theorem pause_calls {g : Nat} {p : SP} {d : Snd} {Fq G : Nat → Prop} {w : World} (h : SAt g p d Fq G w) (n : Int) (h0 : 0 ≤ n) :
    Calls Tryz.prog 81 #[.pointer (some ⟨g, 0, none⟩), .int .i64 n] w fun e w' => e = .returned (.int .i64 (pauseN d.back n)) ∧ Grow w w' := by
  obtain ⟨c0, c1, c2, c3, c4, c5, c6, c7, c8, c9, c10, c11, c12, c13, c14, cf⟩ := cells15 h.cell
  clear h
  go_enter Tryz.func81, Tryz.ntmps81
  go_wp2
  refine region_ord [0, 1, 2, 3, 4, 5, 6, 7, 8, 9] [9] [4] [] rfl (by kernel_rfl) ?_
  iterate 4
    refine ord_pure rfl rfl rfl rfl rfl (fun _ _ _ _ h => h) ?_ ?_ ?_ ?_ ?_
    rotate_left 2
    · intro w'; go_simp; with_reducible rfl
    · simp only [Act.put, List.setIfInBounds_toArray, List.set_cons_zero, List.set_cons_succ]; rfl
  refine ord_read rfl rfl rfl rfl rfl (fun _ _ _ _ h => h) ?_ ?_ ?_ ?_ ?_
  rotate_left 2
  · intro w' hg; have q := hg.cell c7 (fun h => h); go_simp; with_reducible rfl
  · simp only [Act.put, List.setIfInBounds_toArray, List.set_cons_zero, List.set_cons_succ]; rfl
  iterate 2
    refine ord_pure rfl rfl rfl rfl rfl (fun _ _ _ _ h => h) ?_ ?_ ?_ ?_ ?_
    rotate_left 2
    · intro w'; go_simp; with_reducible rfl
    · simp only [Act.put, List.setIfInBounds_toArray, List.set_cons_zero, List.set_cons_succ]; rfl
  obtain ⟨m, hm, hm10⟩ : ∃ m : Nat, (if 10 < n then 10 else n) = m ∧ m ≤ 10 := by
    by_cases hh : 10 < n
    · exact ⟨10, by rw [if_pos hh]; rfl, by omega⟩
    · exact ⟨n.toNat, by rw [if_neg hh]; omega, by omega⟩
  have HE : Hid ((if 2 ^ m < d.back then 2 ^ m else d.back) = pauseN d.back n) := Lib.hid (by
    unfold pauseN
    rw [show (min n 10).toNat = m from by split at hm <;> omega]
    generalize (2 : Int) ^ m = x
    split <;> omega)
  rw [hm]
  have hm0 : (0 : Int) ≤ m := by omega
  have hm64 : (m : Int) ≤ 64 := by omega
  have hmn : ((m : Int)).toNat = m := Int.toNat_natCast m
  have hw : IntKind.i64.wrap (2 ^ m) = 2 ^ m := by
    clear hm HE hm0 hm64 hmn
    have : ∀ m : Fin 11, IntKind.i64.wrap (2 ^ m.1) = 2 ^ m.1 := by decide
    exact this ⟨m, by omega⟩
  clear hm
  iterate 2
    refine ord_pure rfl rfl rfl rfl rfl (fun _ _ _ _ h => h) ?_ ?_ ?_ ?_ ?_
    rotate_left 2
    · intro w'; go_simp; with_reducible rfl
    · simp only [Act.put, List.setIfInBounds_toArray, List.set_cons_zero, List.set_cons_succ]; rfl
  refine ord_set rfl rfl rfl rfl ?_ ?_ ?_ ?_ ?_
  rotate_left 2
  · go_simp; with_reducible rfl
  · simp only [Act.put, List.setIfInBounds_toArray, List.set_cons_zero, List.set_cons_succ]; rfl
  refine ord_nil ?_
  rw [HE.out]
  go_wp2
  go_ret
  exact ⟨rfl, (Keep.refl _ _).drew⟩

set_option maxRecDepth 100000 in
set_option maxHeartbeats 2000000 in
theorem waits_calls {g : Nat} {p : SP} {d : Snd} {Fq G : Nat → Prop} {w : World} (h : SAt g p d Fq G w) :
    Calls Tryz.prog 22 #[.pointer (some ⟨g, 0, none⟩)] w fun e w' => e = .returned (.int .i64 d.tm.length) ∧ w = w' := by
  obtain ⟨c0, c1, c2, c3, c4, c5, c6, c7, c8, c9, c10, c11, c12, c13, c14, cf⟩ := cells15 h.cell
  have H := Lib.hid h
  clear h
  go_enter Tryz.func22, Tryz.ntmps22
  go_wp2_with fail
  refine (tlen_calls H.out.que).mono ?_
  rintro e w1 ⟨rfl, rfl⟩
  go_wp2
  go_ret
  exact ⟨rfl, rfl⟩
end Go.Proofs.YtfkcpaahdlkcdaaGreat

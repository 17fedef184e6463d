import Derived.Test.YtimpnbkincgbmaaTmM
set_option linter.unusedSimpArgs false
set_option linter.unusedVariables false
namespace Go.Proofs.Ytimpnbkincgbmaa
open Go.RowKit

theorem heap_setCell31 {w : World} {g T : Nat} {x y z : Value} (u : Value) (h : w.heap[g]? = some (.cells #[x, y, z] T (0, 0))) : (w.setCell ⟨g, 1, none⟩ u).heap[g]? = some (.cells #[x, u, z] T (0, 0)) := by
  simp only [World.setCell, Array.getElem?_modify]
  simp [h]
/-- Another time at i. -/
def retime (a : Nat → It) (i : Nat) (t : Int) (k : Nat) : It := if k = i then ⟨(a i).b, (a i).k, t⟩ else a k
theorem retime_b (a : Nat → It) (i : Nat) (t : Int) (k : Nat) : (retime a i t k).b = (a k).b := by
  unfold retime; split
  · rename_i h; rw [h]
  · rfl
theorem retime_k (a : Nat → It) (i : Nat) (t : Int) (k : Nat) : (retime a i t k).k = (a k).k := by
  unfold retime; split
  · rename_i h; rw [h]
  · rfl
theorem ptrs_retime (n : Nat) (a : Nat → It) (i : Nat) (t : Int) : ptrs n (retime a i t) = ptrs n a := by
  unfold ptrs
  apply List.map_congr_left
  intro k _
  rw [retime_b]
theorem Arr.retimed {q n : Nat} {a : Nat → It} {v mv : Value} {F : Nat → Prop} {w : World} (h : Arr q n a v mv F w) {i : Nat} (hi : i < n) (t : Int) :
    Arr q n (retime a i t) v mv F (w.setCell ⟨(a i).b, 1, none⟩ (.int .i64 t)) ∧ Keep F w (w.setCell ⟨(a i).b, 1, none⟩ (.int .i64 t)) := by
  have hfi := h.fit i hi
  have hk : Keep (fun k => k = (a i).b) w (w.setCell ⟨(a i).b, 1, none⟩ (.int .i64 t)) := (Keep.refl (fun k => k = (a i).b) w).setCell (p := ⟨(a i).b, 1, none⟩) (.inl rfl) _
  refine ⟨⟨(hk.block q (h.lt q h.fq) (fun e => hfi.2.1 e.symm)).trans h.cell, ?_, fun k hkn => ?_, fun x y hx hy e => h.inj x y hx hy (by rw [retime_b, retime_b] at e; exact e), h.few, h.fq, h.frow, fun k hkn => by rw [retime_b]; exact h.fit k hkn, fun k hF => Nat.lt_of_lt_of_le (h.lt k hF) hk.size⟩, hk.mono (fun k e => e ▸ hfi.1)⟩
  · rw [ptrs_retime]
    exact own_keep h.row hk (fun k hv e => hfi.2.2 (e ▸ hv))
  · rw [retime_b, retime_k]
    by_cases e : k = i
    · subst e
      rw [show (retime a k t k).t = t from by simp [retime]]
      exact heap_setCell31 _ (h.item k hkn)
    · rw [show (retime a i t k).t = (a k).t from by simp [retime, e]]
      exact (hk.block _ (h.lt _ (h.fit k hkn).1) (fun e2 => e (h.inj k i hkn hi e2))).trans (h.item k hkn)
theorem MapIs.retimed {w : World} {mb n : Nat} {a : Nat → It} (h : MapIs mb n a w) (i : Nat) (t : Int) : MapIs mb n (retime a i t) w := by
  obtain ⟨D, h1, h2, h3⟩ := h
  refine ⟨D, h1, h2, fun k hk => ?_⟩
  rcases h3 k hk with ⟨j, hj, e, hz⟩ | ⟨hno, hz⟩
  · exact .inl ⟨j, hj, by rw [retime_k]; exact e, fun z => by rw [retime_b]; exact hz z⟩
  · exact .inr ⟨fun j hj => by rw [retime_k]; exact hno j hj, hz⟩
theorem Says.retimed {n : Nat} {a : Nat → It} {l : List KT} (h : Says n a l) (kinj : ∀ i j, i < n → j < n → (a i).k = (a j).k → i = j) {i : Nat} (hi : i < n) (t : Int) : Says n (retime a i t) (setL l (a i).k t) := by
  refine ⟨?_, h.nd.set _ _, fun x => ?_⟩
  · rw [setL_length]
    have := delL_length h.nd (h.mk' hi)
    rw [this, h.len]
  · rw [mem_setL]
    constructor
    · rintro (⟨hx, hne⟩ | rfl)
      · obtain ⟨j, hj, rfl⟩ := (h.mem x).1 hx
        have : j ≠ i := fun e => hne (by rw [e])
        exact ⟨j, hj, by simp [retime, this]⟩
      · exact ⟨i, hi, by simp [retime]⟩
    · rintro ⟨j, hj, rfl⟩
      by_cases e : j = i
      · subst e
        exact .inr (by simp [retime])
      · refine .inl ⟨?_, ?_⟩
        · simp only [retime, if_neg e]
          exact h.mk' hj
        · simp only [retime, if_neg e]
          exact fun e2 => e (kinj j i hj hi e2)

theorem tset_nil (key at_ : Int) (w : World) : Calls Try.prog 27 #[.pointer none, .int .i64 key, .int .i64 at_] w fun e w' => e = .returned (.bool false) ∧ w = w' := by
  go_enter Try.func27, Try.ntmps27
  go_wp2
  go_ret
  exact ⟨rfl, rfl⟩

/-- A queue whose order is another. -/
theorem QueIs.reorder {q n : Nat} {a b : Nat → It} {v2 : Value} {mb : Nat} {F2 : Nat → Prop} {w : World} (hA : Arr q n b v2 (.map (some mb)) F2 w) (hH : HeapN b n) (hM : MapIs mb n a w) (hn : ¬ F2 mb) (hok : ∀ i, i < n → okI (a i).k) (hS : Same a b n)
    (hk : ∀ i j, i < n → j < n → (a i).k = (a j).k → i = j) (hb : ∀ i j, i < n → j < n → (a i).b = (a j).b → i = j) : QueIs q n b v2 mb F2 w := by
  refine ⟨hA, hH, hM.same hS, hn, fun i hi => ?_, fun i j hi hj e => ?_⟩
  · obtain ⟨j, hj, e⟩ := hS.to i hi
    rw [e]; exact hok j hj
  · obtain ⟨x, hx, ex⟩ := hS.to i hi
    obtain ⟨y, hy, ey⟩ := hS.to j hj
    rw [ex, ey] at e
    have := hk x y hx hy e
    subst this
    exact hA.inj i j hi hj (by rw [ex, ey])

set_option maxRecDepth 100000 in
theorem tset_there {q n : Nat} {a : Nat → It} {v : Value} {mb : Nat} {F' : Nat → Prop} {w : World} (h1 : QueIs q n a v mb F' w) {i : Nat} (hi : i < n) (hl : (Instr.lookup 89 (.map (some mb)) (.int .i64 (a i).k) false).run Try.prog w = .ok (.pointer (some ⟨(a i).b, 0, none⟩)) w) (at_ : Int) :
    Calls Try.prog 27 #[.pointer (some ⟨q, 0, none⟩), .int .i64 (a i).k, .int .i64 at_] w fun e w' => e = .returned (.bool true) ∧ ∃ b v2, QueIs q n b v2 mb F' w' ∧ Same (retime a i at_) b n ∧ Keep F' w w' := by
  obtain ⟨r, c, rfl, hr, hnc, i0, i1, i2, i3⟩ := h1.arr.get i hi
  have hm := cell1 h1.arr.cell
  have hz : w.frozen? ⟨(a i).b, 1, none⟩ = false := frozen0 1 (h1.arr.item i hi)
  obtain ⟨hR, hK⟩ := h1.arr.retimed hi at_
  have HR := Lib.hid hR
  have HK := Lib.hid hK
  have H1 := Lib.hid h1
  have i3' : (w.setCell ⟨(a i).b, 1, none⟩ (.int .i64 at_)).drew.cell? ⟨(a i).b, 2, none⟩ = some (.int .i64 i) := by
    obtain ⟨_, _, _, _, _, _, _, _, j3⟩ := hR.get i hi
    rw [retime_b] at j3
    exact j3
  clear h1 hR hK
  go_enter Try.func27, Try.ntmps27
  go_wp2
  refine region_ord [0, 1, 2, 3, 4, 5, 6, 7, 8] [8] [7] [8] rfl (by kernel_rfl) ?_
  iterate 7
    refine ord_pure rfl rfl rfl rfl rfl (fun _ _ _ _ h => h) ?_ ?_ ?_ ?_ ?_
    rotate_left 2
    · intro w'; go_simp; with_reducible rfl
    · simp only [Act.put, List.setIfInBounds_toArray, List.set_cons_zero, List.set_cons_succ]; rfl
  refine ord_read rfl rfl rfl rfl rfl (fun _ _ _ _ h => h) ?_ ?_ ?_ ?_ ?_
  rotate_left 2
  · intro w' hg; have q := hg.cell i3' (fun h => h); go_simp; with_reducible rfl
  · simp only [Act.put, List.setIfInBounds_toArray, List.set_cons_zero, List.set_cons_succ]; rfl
  refine ord_call rfl rfl rfl rfl rfl Try.func44 rfl rfl [.iface 98 (.pointer (some ⟨q, 0, none⟩)), .int .i64 i] rfl ?_
  refine (fix_calls q n (retime a i at_) _ _ F' _ (HR.out.grow ((Keep.refl NoB _).drew)) i hi (H1.out.heap.change (fun k hk => by simp [retime, hk]))).mono ?_
  rintro e w2 ⟨rfl, b, hp, hH⟩
  have HP := Lib.hid hp
  have HH := Lib.hid hH
  clear hp hH
  refine ⟨_, rfl, fun h => absurd (by simp) h, ?_⟩
  simp only [Act.put, List.setIfInBounds_toArray, List.set_cons_zero, List.set_cons_succ]
  refine ord_nil ?_
  go_wp2
  go_ret
  have hkk : Keep F' w w2 := (HK.out.grow ((Keep.refl NoB _).drew)).trans HP.out.keep (fun i hi => .inl hi)
  refine ⟨rfl, b, .slice (some ⟨r, 0, none⟩) n c, ?_, HP.out.same, hkk⟩
  refine QueIs.reorder HP.out.arr HH.out ((H1.out.map.keep hkk H1.out.nmb).retimed i at_) H1.out.nmb (fun j hj => by rw [retime_k]; exact H1.out.okk j hj) HP.out.same (fun x y hx hy e => by rw [retime_k, retime_k] at e; exact H1.out.kinj x y hx hy e) (fun x y hx hy e => by rw [retime_b, retime_b] at e; exact H1.out.arr.inj x y hx hy e)

theorem MapIs.added {w2 : World} {mb n : Nat} {a : Nat → It} {D : DataW Unit} (hm : Maps.IsMap D) (hs : Maps.size D = n) (ht : Maps.Tidy D) (h3 : ∀ k, okI k → (∃ i, i < n ∧ (a i).k = k ∧ ∀ z, D.atKey (.int .i64 k) z = .lit (.int .u64 (a i).b)) ∨ ((∀ i, i < n → (a i).k ≠ k) ∧ ∀ z, D.atKey (.int .i64 k) z = z))
    (x : It) (hk : okI x.k) (hno : ∀ i, i < n → (a i).k ≠ x.k) (hown : w2.ownsMap Try.prog 3 pR mb (n + 1) (D.put (.int .i64 x.k) (.lit (.int .u64 x.b)))) : MapIs mb (n + 1) (fun i => if i = n then x else a i) w2 := by
  refine ⟨_, hown, ?_, fun k hk2 => ?_⟩
  · rw [Maps.size_put ht]
    have : Maps.has D (.int .i64 x.k) = false := by
      rcases h3 x.k hk with ⟨i, hi, e, _⟩ | ⟨_, hz⟩
      · exact absurd e (hno i hi)
      · exact Maps.has_false_of_atKey hz
    rw [this, hs]
    rfl
  · by_cases e : k = x.k
    · subst e
      exact .inl ⟨n, by omega, by simp, fun z => by rw [Maps.atKey_put_same hm (isKey _)]; simp⟩
    · have hne : (Lit.int .i64 k) ≠ .int .i64 x.k := fun h => e (by injection h)
      rcases h3 k hk2 with ⟨i, hi, e2, hz⟩ | ⟨hno2, hz⟩
      · refine .inl ⟨i, by omega, by simp only [if_neg (show i ≠ n by omega)]; exact e2, fun z => ?_⟩
        rw [Maps.atKey_put_other hne]
        simp only [if_neg (show i ≠ n by omega)]
        exact hz z
      · refine .inr ⟨fun i hi => ?_, fun z => by rw [Maps.atKey_put_other hne]; exact hz z⟩
        by_cases hin : i = n
        · simp only [hin, if_true]; exact fun e2 => e e2.symm
        · simp only [if_neg hin]; exact hno2 i (by omega)

theorem Says.added {n : Nat} {a : Nat → It} {l : List KT} (h : Says n a l) (x : It) (hno : ∀ i, i < n → (a i).k ≠ x.k) : Says (n + 1) (fun i => if i = n then x else a i) (setL l x.k x.t) := by
  have hd : delL l x.k = l := delL_absent (h.none hno)
  refine ⟨by rw [setL_length, hd, h.len], h.nd.set _ _, fun y => ?_⟩
  rw [mem_setL]
  constructor
  · rintro (⟨hy, _⟩ | rfl)
    · obtain ⟨i, hi, rfl⟩ := (h.mem y).1 hy
      exact ⟨i, by omega, by simp only [if_neg (show i ≠ n by omega)]⟩
    · exact ⟨n, by omega, by simp⟩
  · rintro ⟨i, hi, rfl⟩
    by_cases hin : i = n
    · exact .inr (by simp [hin])
    · simp only [if_neg hin]
      exact .inl ⟨h.mk' (by omega), hno i (by omega)⟩

set_option maxRecDepth 100000 in
theorem tset_new {q n : Nat} {a : Nat → It} {v : Value} {mb : Nat} {F' : Nat → Prop} {w : World} (h1 : QueIs q n a v mb F' w) (key : Int) (hk : okI key) (hno : ∀ i, i < n → (a i).k ≠ key) (hl : (Instr.lookup 89 (.map (some mb)) (.int .i64 key) false).run Try.prog w = .ok (.pointer none) w) (hn : n < 1000) (at_ : Int) :
    Calls Try.prog 27 #[.pointer (some ⟨q, 0, none⟩), .int .i64 key, .int .i64 at_] w fun e w' => e = .returned (.bool true) ∧ ∃ b v2 F2 x, QueIs q (n + 1) b v2 mb F2 w' ∧ x.k = key ∧ x.t = at_ ∧ Same (fun i => if i = n then x else a i) b (n + 1) ∧ Keep (fun k => F' k ∨ k = mb) w w' ∧ ∀ k, F2 k → F' k ∨ w.heap.size ≤ k := by
  obtain ⟨A, c, rfl⟩ := h1.arr.slice
  have hc := h1.arr.cell0
  have hm := cell1 h1.arr.cell
  obtain ⟨D, d1, d2, d3⟩ := h1.map
  have hmb := d1.lt
  have hx0 : Keep NoB w (w.alloc (.cells #[.int .i64 key, .int .i64 at_, .int .i64 0] 96)) := (Keep.refl _ _).alloc _
  have hm1 := hx0.cell hm (fun h => h)
  have H1 := Lib.hid h1
  have Hd1 := Lib.hid (d1.alloc (.cells #[.int .i64 key, .int .i64 at_, .int .i64 0] 96))
  have Hd := Lib.hid (And.intro d2 d3)
  have Hno := Lib.hid hno
  have hcell := heap_alloc_new w (.cells #[.int .i64 key, .int .i64 at_, .int .i64 0] 96)
  clear h1 d1 d2 d3 hno
  go_enter Try.func27, Try.ntmps27
  go_wp2_with (at_mapUpdate; refine wpList_mapUpdate_own _ rfl _ _ _ 89 rfl 3 94 keyed_int u_map pR mb n D rfl (by exact Hd1.out) (by simp only [maxLen]; omega) _ _ (.int .i64 key) rfl rfl (key_int hk) (.lit (.int .u64 w.heap.size)) [] rfl ?_; intro w2 hown hgr; refine Hid.out ?_)
  refine Lib.hid ?_
  have k12 : Keep (fun k => k = mb) w w2 := (((Keep.refl (fun k => k = mb) w).alloc _).grown hgr (fun k hk => .inl (by injection hk with hk; exact hk.symm)))
  have HA := Lib.hid (H1.out.arr.keep k12 (fun k hk e => H1.out.nmb (e ▸ hk)))
  have hx2 : Hid (w2.heap[w.heap.size]? = some (.cells #[.int .i64 key, .int .i64 at_, .int .i64 0] 96 (0, 0))) :=
    (hgr.block w.heap.size (by simp) (fun e => by injection e with e; omega)).trans hcell
  have htidy := hown.tidy keyed_int
  have Htd := Lib.hid (Hd1.out.tidy keyed_int)
  have HM : Hid (MapIs mb (n + 1) (fun i => if i = n then ⟨w.heap.size, key, at_⟩ else a i) w2) := MapIs.added Htd.out.isMap Hd.out.1 Htd.out Hd.out.2 ⟨w.heap.size, key, at_⟩ hk Hno.out hown
  have Hk12 := Lib.hid k12
  have hFn : ¬ F' w.heap.size := fun h => absurd (H1.out.arr.lt _ h) (by omega)
  clear k12 hown hgr htidy hcell hm1 hx0 hc hm
  go_wp2_with fail
  refine (heappush_calls q n a _ _ F' w2 HA.out H1.out.heap ⟨w.heap.size, key, at_⟩ 0 hx2.out hFn hn).mono ?_
  rintro e w3 ⟨rfl, b, v3, F2, h3, hH3, hS3, hK3, hF3⟩
  have H3 := Lib.hid h3
  have HH3 := Lib.hid hH3
  have HS3 := Lib.hid hS3
  have HK3 := Lib.hid hK3
  have HF3 := Lib.hid hF3
  clear h3 hH3 hS3 hK3 hF3
  go_wp2
  go_ret
  have hsz := Hk12.out.size
  have hnmb : ¬ (F' mb ∨ mb = w.heap.size) := fun h => h.elim H1.out.nmb (fun e => by omega)
  refine ⟨rfl, b, v3, F2, ⟨w.heap.size, key, at_⟩, ?_, rfl, rfl, HS3.out, ?_, fun k hk => ?_⟩
  · refine QueIs.reorder H3.out HH3.out (HM.out.keep HK3.out hnmb) (fun h => ?_) (fun i hi => ?_) HS3.out (fun i j hi hj e => ?_) (fun i j hi hj e => ?_)
    · rcases HF3.out mb h with e | e | e
      · exact H1.out.nmb e
      · omega
      · omega
    · by_cases e : i = n
      · simp only [e, if_true]; exact hk
      · simp only [if_neg e]; exact H1.out.okk i (by omega)
    · by_cases e1 : i = n <;> by_cases e2 : j = n
      · omega
      · simp only [e1, if_true, if_neg e2] at e
        exact absurd e.symm (Hno.out j (by omega))
      · simp only [e2, if_true, if_neg e1] at e
        exact absurd e (Hno.out i (by omega))
      · simp only [if_neg e1, if_neg e2] at e
        exact H1.out.kinj i j (by omega) (by omega) e
    · by_cases e1 : i = n <;> by_cases e2 : j = n
      · omega
      · simp only [e1, if_true, if_neg e2] at e
        exact absurd (e ▸ (H1.out.arr.fit j (by omega)).1) hFn
      · simp only [e2, if_true, if_neg e1] at e
        exact absurd (e ▸ (H1.out.arr.fit i (by omega)).1) hFn
      · simp only [if_neg e1, if_neg e2] at e
        exact H1.out.arr.inj i j (by omega) (by omega) e
  · refine (Hk12.out.mono (T := fun k => F' k ∨ k = mb) (fun _ h => .inr h)).trans HK3.out (fun k hk => ?_)
    rcases hk with e | e
    · exact .inl (.inl e)
    · exact .inr (by rw [e]; exact Nat.le_refl _)
  · rcases HF3.out k hk with e | e | e
    · exact .inl e
    · exact .inr (by rw [e]; exact Nat.le_refl _)
    · exact .inr (by omega)
end Go.Proofs.Ytimpnbkincgbmaa

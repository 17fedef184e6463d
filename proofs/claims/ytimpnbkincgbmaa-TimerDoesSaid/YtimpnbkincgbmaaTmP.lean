import Derived.Test.YtimpnbkincgbmaaTmO
set_option linter.unusedSimpArgs false
set_option linter.unusedVariables false
namespace Go.Proofs.Ytimpnbkincgbmaa
open Go.RowKit

theorem lekt_trans {x y z : KT} (h : lekt x y) (k : lekt y z) : lekt x z := by unfold lekt at *; omega
theorem lekt_antisymm {x y : KT} (h : lekt x y) (k : lekt y x) : x = y := by
  unfold lekt at *
  have h1 : x.1 = y.1 := by omega
  have h2 : x.2 = y.2 := by omega
  cases x; cases y
  simp_all
def restL (l : List KT) (now : Int) : List KT := l.filter (fun x => decide (now < x.2))
/-- Those that are due: sorted, and each of them. -/
structure DueOf (l : List KT) (now : Int) (ds : List KT) : Prop where
  sorted : ds.Pairwise lekt
  nd : ND ds
  mem : ∀ x, x ∈ ds ↔ x ∈ l ∧ x.2 ≤ now
  len : ds.length + (restL l now).length = l.length
theorem sorted_unique : ∀ {a b : List KT}, a.Pairwise lekt → b.Pairwise lekt → ND a → ND b → (∀ x, x ∈ a ↔ x ∈ b) → a = b
  | [], [], _, _, _, _, _ => rfl
  | [], y :: r, _, _, _, _, h => by have := (h y).2 (by simp); cases this
  | x :: r, [], _, _, _, _, h => by have := (h x).1 (by simp); cases this
  | x :: r, y :: s, ha, hb, na, nb, h => by
    obtain ⟨a1, a2⟩ := List.pairwise_cons.1 ha
    obtain ⟨b1, b2⟩ := List.pairwise_cons.1 hb
    obtain ⟨c1, c2⟩ := List.pairwise_cons.1 na
    obtain ⟨d1, d2⟩ := List.pairwise_cons.1 nb
    have hxy : x = y := by
      rcases List.mem_cons.1 ((h x).1 (by simp)) with e | e
      · exact e
      · rcases List.mem_cons.1 ((h y).2 (by simp)) with e2 | e2
        · exact e2.symm
        · exact lekt_antisymm (a1 y e2) (b1 x e)
    subst hxy
    congr 1
    refine sorted_unique a2 b2 c2 d2 (fun z => ⟨fun hz => ?_, fun hz => ?_⟩)
    · rcases List.mem_cons.1 ((h z).1 (by simp [hz])) with e | e
      · exact absurd (e ▸ rfl) (c1 z hz)
      · exact e
    · rcases List.mem_cons.1 ((h z).2 (by simp [hz])) with e | e
      · exact absurd (e ▸ rfl) (d1 z hz)
      · exact e
theorem DueOf.unique {l : List KT} {now : Int} {a b : List KT} (h : DueOf l now a) (k : DueOf l now b) : a = b :=
  sorted_unique h.sorted k.sorted h.nd k.nd (fun x => (h.mem x).trans (k.mem x).symm)

/-- Half way. -/
structure Part (l : List KT) (now : Int) (ds l' : List KT) : Prop where
  sorted : ds.Pairwise lekt
  nd : ND ds
  nd' : ND l'
  le : ∀ x ∈ ds, ∀ y ∈ l', lekt x y
  ne : ∀ x ∈ ds, ∀ y ∈ l', x.1 ≠ y.1
  due : ∀ x ∈ ds, x.2 ≤ now
  mem : ∀ x, x ∈ l ↔ x ∈ ds ∨ x ∈ l'
  len : ds.length + l'.length = l.length
  rest : restL l' now = restL l now
theorem Part.start {l : List KT} (h : ND l) (now : Int) : Part l now [] l :=
  ⟨List.Pairwise.nil, List.Pairwise.nil, h, fun x h => (by cases h), fun x h => (by cases h), fun x h => (by cases h), fun x => by simp, by simp, rfl⟩
theorem ND.key {l : List KT} (h : ND l) {x y : KT} (hx : x ∈ l) (hy : y ∈ l) (e : x.1 = y.1) : x = y := by
  induction l with
  | nil => cases hx
  | cons z r ih =>
    obtain ⟨h1, h2⟩ := List.pairwise_cons.1 h
    rcases List.mem_cons.1 hx with e1 | e1 <;> rcases List.mem_cons.1 hy with e2 | e2
    · rw [e1, e2]
    · subst e1; exact absurd e (h1 y e2)
    · subst e2; exact absurd e.symm (h1 x e1)
    · exact ih h2 e1 e2
theorem Part.step {l : List KT} {now : Int} {ds l' : List KT} (h : Part l now ds l') {x : KT} (hx : x ∈ l') (hm : ∀ y ∈ l', lekt x y) (hn : x.2 ≤ now) : Part l now (ds ++ [x]) (delL l' x.1) := by
  refine ⟨?_, ?_, h.nd'.del _, ?_, ?_, ?_, ?_, ?_, ?_⟩
  · rw [List.pairwise_append]
    exact ⟨h.sorted, by simp, fun y hy z hz => by rw [List.mem_singleton.1 hz]; exact h.le y hy x hx⟩
  · unfold ND
    rw [List.pairwise_append]
    exact ⟨h.nd, by simp, fun y hy z hz => by rw [List.mem_singleton.1 hz]; exact h.ne y hy x hx⟩
  · intro y hy z hz
    have hz' := (mem_delL.1 hz).1
    rcases List.mem_append.1 hy with e | e
    · exact h.le y e z hz'
    · rw [List.mem_singleton.1 e]; exact hm z hz'
  · intro y hy z hz
    have hz' := mem_delL.1 hz
    rcases List.mem_append.1 hy with e | e
    · exact h.ne y e z hz'.1
    · rw [List.mem_singleton.1 e]; exact hz'.2.symm
  · intro y hy
    rcases List.mem_append.1 hy with e | e
    · exact h.due y e
    · rw [List.mem_singleton.1 e]; exact hn
  · intro y
    rw [h.mem y, List.mem_append, List.mem_singleton, mem_delL]
    constructor
    · rintro (e | e)
      · exact .inl (.inl e)
      · by_cases hk : y.1 = x.1
        · exact .inl (.inr (h.nd'.key e hx hk))
        · exact .inr ⟨e, hk⟩
    · rintro ((e | e) | e)
      · exact .inl e
      · exact .inr (e ▸ hx)
      · exact .inr e.1
  · have := delL_length (t := x.2) h.nd' hx
    have := h.len
    rw [List.length_append, List.length_singleton]
    omega
  · rw [← h.rest]
    unfold restL delL
    rw [List.filter_filter]
    apply List.filter_congr
    intro y hy
    by_cases hk : y.1 = x.1
    · have := h.nd'.key hy hx hk
      subst this
      simp; omega
    · simp [hk]
theorem Part.done {l : List KT} {now : Int} {ds l' : List KT} (h : Part l now ds l') (hx : ∀ y ∈ l', now < y.2) : DueOf l now ds ∧ l' = restL l now := by
  have hr : l' = restL l now := by
    rw [← h.rest]
    unfold restL
    rw [List.filter_eq_self.2]
    intro y hy
    simpa using hx y hy
  refine ⟨⟨h.sorted, h.nd, fun x => ⟨fun hd => ⟨(h.mem x).2 (.inl hd), h.due x hd⟩, fun ⟨h1, h2⟩ => ?_⟩, by rw [← hr]; exact h.len⟩, hr⟩
  rcases (h.mem x).1 h1 with e | e
  · exact e
  · have := hx x e; omega

def ints (l : List Int) : List Value := l.map (Value.int .i64)
def keysV (ds : List KT) : List Value := ds.map (fun x => Value.int .i64 x.1)
theorem info_int : (Try.prog.info? 3).map (fun i => (i.zero, i.size, i.bytes)) = some (some (.int .i64 0), 1, 8) := by kernel_rfl
theorem u_ints : Try.prog.underlying 54 = some (.slice 3) := by kernel_rfl
def sliceLen : Value → Nat
  | .slice _ n _ => n
  | _ => 0
theorem Que.lt {q : Nat} {l : List KT} {F : Nat → Prop} {w : World} (h : Que q l F w) : q < w.heap.size := by
  obtain ⟨n, a, v, mb, F', h1, h2, h3⟩ := h
  exact h1.arr.lt q h1.arr.fq
theorem Que.nd {q : Nat} {l : List KT} {F : Nat → Prop} {w : World} (h : Que q l F w) : ND l := by
  obtain ⟨n, a, v, mb, F', h1, h2, h3⟩ := h
  exact h2.nd

theorem tdue_nil (now : Int) (w : World) : Calls Try.prog 28 #[.pointer none, .int .i64 now] w fun e w' => e = .returned (.slice none 0 0) ∧ w = w' := by
  go_enter Try.func28, Try.ntmps28
  go_wp2
  go_loopw [5] (fun v wr => wr = w ∧ v = .slice none 0 0) (fun v _ => 0)
  case atStart => exact ⟨rfl, rfl⟩
  case round =>
    obtain ⟨rfl, rfl⟩ := hrel
    go_wp2_with fail
    refine (tnext_nil wr).mono ?_
    rintro e w' ⟨rfl, rfl⟩
    go_wp2
    go_ret
    exact ⟨rfl, rfl⟩

structure DueSt (w : World) (q : Nat) (F : Nat → Prop) (l : List KT) (now : Int) (ds l' : List KT) (v : Value) (wr : World) : Prop where
  que : Que q l' F wr
  keep : Keep F w wr
  own : wr.ownsRow w.heap.size 3 1 v ds.length (keysV ds)
  part : Part l now ds l'

set_option maxRecDepth 100000 in
theorem tdue_calls {q : Nat} {l : List KT} {F : Nat → Prop} {w : World} (h : Que q l F w) (hF : ∀ k, F k → k < w.heap.size) (now : Int) :
    Calls Try.prog 28 #[.pointer (some ⟨q, 0, none⟩), .int .i64 now] w fun e w' => ∃ ds A c, e = .returned (.slice A ds.length c) ∧ DueOf l now ds ∧ Que q (restL l now) F w' ∧ Keep F w w' ∧ w'.ownsRow w.heap.size 3 1 (.slice A ds.length c) ds.length (keysV ds) := by
  have hfew := h.few
  have HS : Hid (DueSt w q F l now [] l (.slice none 0 0) w) := ⟨h, Keep.refl _ _, World.ownsRow_nil _ _ _ _, Part.start h.nd now⟩
  have HF := Lib.hid hF
  clear h hF
  go_enter Try.func28, Try.ntmps28
  go_wp2
  go_loopw [5] (fun v wr => ∃ ds l' A c, v = .slice A ds.length c ∧ Hid (DueSt w q F l now ds l' (.slice A ds.length c) wr)) (fun v _ => l.length - sliceLen v)
  case atStart => exact ⟨[], l, none, 0, rfl, HS⟩
  case round =>
    clear HS
    obtain ⟨ds, l', A, c, rfl, HS⟩ := hrel
    by_cases hnil : l' = []
    · subst hnil
      go_wp2_with fail
      refine (tnext_no HS.out.que).mono ?_
      rintro e w' ⟨rfl, rfl⟩
      go_wp2
      go_ret
      obtain ⟨h1, h2⟩ := HS.out.part.done (fun y hy => by cases hy)
      have hq := HS.out.que
      rw [h2] at hq
      exact ⟨ds, A, c, rfl, h1, hq, HS.out.keep, HS.out.own⟩
    · go_wp2_with fail
      refine (tnext_yes HS.out.que hnil).mono ?_
      rintro e w2 ⟨x, rfl, hg, hx, hm, hok⟩
      have HS2 : Hid (DueSt w q F l now ds l' (.slice A ds.length c) w2) := ⟨HS.out.que.grow hg, HS.out.keep.grow hg, own_keep HS.out.own hg (fun _ _ h => h), HS.out.part⟩
      have Hm := Lib.hid (And.intro hx hm)
      have Hok := Lib.hid hok
      clear hg hx hm HS hok
      by_cases hn : now < x.2
      · go_wp2
        go_ret
        obtain ⟨h1, h2⟩ := HS2.out.part.done (fun y hy => by
          have := Hm.out.2 y hy
          unfold lekt at this
          omega)
        have hq := HS2.out.que
        rw [h2] at hq
        exact ⟨ds, A, c, rfl, h1, hq, HS2.out.keep, HS2.out.own⟩
      · go_wp2_with fail
        refine (tdrop_calls HS2.out.que x.1 Hok.out).mono ?_
        rintro e w3 ⟨rfl, hQ3, hK3⟩
        have hlen := HS2.out.part.len
        have hl0 : 0 < l'.length := List.length_pos_iff.2 hnil
        have hown3 := own_keep HS2.out.own hK3 (fun k hk hF => by
          have := (HS2.out.own.lt k hk).1
          have := HF.out k hF
          omega)
        have Hown3 := Lib.hid (own_keep hown3 ((Keep.refl NoB w3).alloc (.cells #[.int .i64 x.1] 3)) (fun _ _ h => h))
        have HK3 := Lib.hid (HS2.out.keep.trans hK3 (fun i hi => .inl hi))
        have HQ3 := Lib.hid hQ3
        have hsz := HK3.out.size
        clear hown3 hQ3 hK3
        go_wp2_with (at_builtin; refine wpList_app _ rfl _ _ 54 54 rfl w.heap.size 3 (.int .i64 0) 1 8 u_ints info_int rfl (.slice A ds.length c) ds.length (keysV ds) rfl (.slice (some ⟨w3.heap.size, 0, none⟩) 1 1) 1 [.int .i64 x.1] rfl ?_ (by exact Hown3.out) (by exact Src.ofSlice _ u_ints ⟨w3.heap.size, 0, none⟩ 1 1 _ rfl (World.news_of_block (cs := #[.int .i64 x.1]) (t := 3) (fr := (0, 0)) (heap_alloc_new w3 _)) (by simp [Value.oneCell'])) (by simp only [maxLen]; omega) (by omega) (by simp; omega); intro v4 w4 hap; refine Hid.out ?_)
        refine Lib.hid ?_
        have hk4 : Keep (fun k => w.heap.size ≤ k) w3 w4 := ((Keep.refl (fun k => w.heap.size ≤ k) w3).alloc _).grown hap.grew (fun k hk => .inl (Hown3.out.lt k hk).1)
        have hdis : ∀ k, F k → ¬ (w.heap.size ≤ k) := fun k hk h2 => by have := HF.out k hk; omega
        have e1 : (ds ++ [x]).length = ds.length + 1 := by simp
        have e2 : keysV (ds ++ [x]) = keysV ds ++ [.int .i64 x.1] := by simp [keysV]
        have HS4 : Hid (DueSt w q F l now (ds ++ [x]) (delL l' x.1) v4 w4) := ⟨HQ3.out.keep hk4 hdis, HK3.out.trans hk4 (fun i hi => .inr hi), by rw [e1, e2]; exact hap.own, HS2.out.part.step Hm.out.1 Hm.out.2 (by omega)⟩
        obtain ⟨A4, c4, rfl, _⟩ := own_slice hap.own
        clear hap hk4
        rw [← e1] at HS4 ⊢
        go_wp2
        go_roundw
        case rel => exact ⟨ds ++ [x], _, A4, c4, rfl, HS4⟩
        case measure => simp [sliceLen]; omega
end Go.Proofs.Ytimpnbkincgbmaa

import Derived.Test.YtimpnbkincgbmaaTmQ
set_option linter.unusedSimpArgs false
set_option linter.unusedVariables false
namespace Go.Proofs.Ytimpnbkincgbmaa
open Go.RowKit

theorem SliceR.keep {S : Nat → Prop} {size : Nat} {A : Option Addr} {n m c : Nat} {vs : List Value} {w w' : World} (h : SliceR size (.slice A n c) m vs w) (hk : Keep S w w') (hS : ∀ ad, A = some ad → ¬ S ad.block) : SliceR size (.slice A n c) m vs w' := by
  obtain ⟨A', c', h1, h2, h3, h4, h5⟩ := h
  injection h1 with e1 e2 e3
  subst e1
  exact ⟨A, c', by rw [e2, e3], h2, h3, h4, h5.keep hk hS⟩
theorem SliceR.at_ {A : Option Addr} {n c : Nat} {vs : List Value} {w : World} (h : SliceR 1 (.slice A n c) n vs w) (i : Nat) (hi : i < vs.length) : ∃ ad, A = some ad ∧ w.cell? (ad.add i) = some vs[i] := by
  obtain ⟨A', c', e, h1, h2, h3, h4⟩ := h
  injection e with e1 e2 e3
  subst e1
  exact h4 i _ (List.getElem?_eq_getElem hi)

set_option maxRecDepth 100000 in
theorem same_calls (A B : Option Addr) (c d : Nat) (xs : List KT) (w : World) (ha : SliceR 1 (.slice A xs.length c) xs.length (keysV xs) w) (hb : SliceR 1 (.slice B xs.length d) xs.length (keysV xs) w) (hl : xs.length ≤ 1000) :
    Calls Try.prog 30 #[.slice A xs.length c, .slice B xs.length d] w fun e w' => e = .returned (.bool true) ∧ Grow w w' := by
  have Ha := Lib.hid ha
  have Hb := Lib.hid hb
  have hne : ((xs.length : Int) != (xs.length : Int)) = false := by simp
  clear ha hb
  go_enter Try.func30, Try.ntmps30
  go_wp2
  go_loopw [5] (fun v wr => ∃ i : Nat, i ≤ xs.length ∧ v = .int .i64 i ∧ Hid (Grow w wr)) (fun v _ => xs.length - (intOf v).toNat)
  case atStart => exact ⟨0, by omega, rfl, Keep.refl _ _⟩
  case round =>
    obtain ⟨i, hi, rfl, HG⟩ := hrel
    by_cases hlt : i < xs.length
    · have hlt' : (i : Int) < xs.length := by omega
      have hw : IntKind.i64.wrap ((i : Int) + 1) = (i : Int) + 1 := IntWalk.i64_in _ (by omega)
      have hkl : i < (keysV xs).length := by simpa [keysV] using hlt
      obtain ⟨a1, rfl, q1⟩ := SliceR.at_ (Ha.out.grow (HG.out.drew)) i hkl
      obtain ⟨b1, rfl, q2⟩ := SliceR.at_ (Hb.out.grow (HG.out.drew)) i hkl
      have e : (keysV xs)[i] = .int .i64 xs[i].1 := by simp [keysV]
      rw [e] at q1 q2
      go_wp2
      refine region_ord [0, 1, 2, 3, 4, 5, 6, 7, 8] [] [3, 7] [] rfl (by kernel_rfl) ?_
      iterate 3
        refine ord_pure rfl rfl rfl rfl rfl (fun _ _ _ _ h => h) ?_ ?_ ?_ ?_ ?_
        rotate_left 2
        · intro w'; go_simp; with_reducible rfl
        · simp only [Act.put, List.setIfInBounds_toArray, List.set_cons_zero, List.set_cons_succ]; rfl
      refine ord_read rfl rfl rfl rfl rfl (fun _ _ _ _ h => h) ?_ ?_ ?_ ?_ ?_
      rotate_left 2
      · intro w' hg; have q := hg.cell q1 (fun h => h); go_simp; with_reducible rfl
      · simp only [Act.put, List.setIfInBounds_toArray, List.set_cons_zero, List.set_cons_succ]; rfl
      iterate 3
        refine ord_pure rfl rfl rfl rfl rfl (fun _ _ _ _ h => h) ?_ ?_ ?_ ?_ ?_
        rotate_left 2
        · intro w'; go_simp; with_reducible rfl
        · simp only [Act.put, List.setIfInBounds_toArray, List.set_cons_zero, List.set_cons_succ]; rfl
      refine ord_read rfl rfl rfl rfl rfl (fun _ _ _ _ h => h) ?_ ?_ ?_ ?_ ?_
      rotate_left 2
      · intro w' hg; have q := hg.cell q2 (fun h => h); go_simp; with_reducible rfl
      · simp only [Act.put, List.setIfInBounds_toArray, List.set_cons_zero, List.set_cons_succ]; rfl
      refine ord_pure rfl rfl rfl rfl rfl (fun _ _ _ _ h => h) ?_ ?_ ?_ ?_ ?_
      rotate_left 2
      · intro w'; go_simp; with_reducible rfl
      · simp only [Act.put, List.setIfInBounds_toArray, List.set_cons_zero, List.set_cons_succ]; rfl
      refine ord_nil ?_
      have HG2 : Hid (Grow w wr.drew) := HG.out.drew
      go_wp2
      go_roundw
      case rel => exact ⟨i + 1, by omega, by go_num, HG2⟩
      case measure => simp [intOf]; omega
    · obtain rfl : i = xs.length := by omega
      go_wp2
      go_ret
      exact ⟨rfl, HG.out⟩

theorem keysV_one (xs : List KT) : ∀ u ∈ keysV xs, u.oneCell' = true := by
  intro u hu
  obtain ⟨x, _, rfl⟩ := List.mem_map.1 hu
  rfl
def sl (f : Nat → Int) (i : Nat) : List KT := (List.range i).map (fun (j : Nat) => ((j : Int), f j))
theorem sl_length (f : Nat → Int) (i : Nat) : (sl f i).length = i := by simp [sl]
theorem mem_sl {f : Nat → Int} {i : Nat} {x : KT} : x ∈ sl f i ↔ ∃ j : Nat, j < i ∧ x = ((j : Int), f j) := by
  simp only [sl, List.mem_map, List.mem_range]
  constructor
  · rintro ⟨j, hj, rfl⟩; exact ⟨j, hj, rfl⟩
  · rintro ⟨j, hj, rfl⟩; exact ⟨j, hj, rfl⟩
theorem sl_nd (f : Nat → Int) (i : Nat) : ND (sl f i) := by
  unfold ND sl
  rw [List.pairwise_map]
  exact List.Pairwise.imp (fun {a b} (h : a < b) => by show ((a : Int), f a).1 ≠ ((b : Int), f b).1; simp; omega) List.pairwise_lt_range
theorem rSet_sl (f : Nat → Int) (i : Nat) (hi : i < 1000) : rSet (sl f i) i (f i) = sl f (i + 1) := by
  have ho : okSet (sl f i) i = true := by simp [okSet, sl_length, hi]
  have hd : delL (sl f i) i = sl f i := delL_absent (fun x hx => by
    obtain ⟨j, hj, rfl⟩ := mem_sl.1 hx
    show (j : Int) ≠ i
    omega)
  unfold rSet setL
  rw [if_pos ho, hd]
  simp [sl, List.range_succ]
theorem restL_restL (l : List KT) {lo hi : Int} (h : lo ≤ hi) : restL (restL l lo) hi = restL l hi := by
  unfold restL
  rw [List.filter_filter]
  apply List.filter_congr
  intro x _
  rw [← Bool.decide_and, decide_eq_decide]
  omega
theorem DueOf.parts {l : List KT} (hn : ND l) {lo hi : Int} (hlo : lo ≤ hi) {a b : List KT} (ha : DueOf l lo a) (hb : DueOf (restL l lo) hi b) : DueOf l hi (a ++ b) := by
  have hbm : ∀ x, x ∈ b ↔ x ∈ l ∧ lo < x.2 ∧ x.2 ≤ hi := fun x => by rw [hb.mem]; simp [restL]; exact ⟨fun h => ⟨h.1.1, h.1.2, h.2⟩, fun h => ⟨⟨h.1, h.2.1⟩, h.2.2⟩⟩
  refine ⟨?_, ?_, fun x => ?_, ?_⟩
  · rw [List.pairwise_append]
    refine ⟨ha.sorted, hb.sorted, fun x hx y hy => ?_⟩
    have h1 := (ha.mem x).1 hx
    have h2 := (hbm y).1 hy
    unfold lekt
    omega
  · unfold ND
    rw [List.pairwise_append]
    refine ⟨ha.nd, hb.nd, fun x hx y hy e => ?_⟩
    have h1 := (ha.mem x).1 hx
    have h2 := (hbm y).1 hy
    have := hn.key h1.1 h2.1 e
    subst this
    omega
  · rw [List.mem_append, ha.mem, hbm]
    constructor
    · rintro (h | h)
      · exact ⟨h.1, by omega⟩
      · exact ⟨h.1, h.2.2⟩
    · rintro ⟨h1, h2⟩
      by_cases h3 : x.2 ≤ lo
      · exact .inl ⟨h1, h3⟩
      · exact .inr ⟨h1, by omega, h2⟩
  · have h1 := ha.len
    have h2 := hb.len
    rw [restL_restL l hlo] at h2
    rw [List.length_append]
    omega
end Go.Proofs.Ytimpnbkincgbmaa

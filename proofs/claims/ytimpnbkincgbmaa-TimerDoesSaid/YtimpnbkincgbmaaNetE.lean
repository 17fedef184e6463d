import Derived.Test.YtimpnbkincgbmaaNetD
set_option linter.unusedSimpArgs false
set_option linter.unusedVariables false
namespace Go.Proofs.Ytimpnbkincgbmaa
open Go.RowKit

set_option maxRecDepth 100000 in
theorem gclone_calls (v : Value) (n : Nat) (vs : List Value) (w : World) (h : SliceR 2 v n vs w) (hl : n ≤ 1000) (h1 : ∀ u ∈ vs, u.oneCell' = true) (hv : v ≠ .slice none 0 0) :
    Calls Try.prog 53 #[v] w fun e w' => ∃ r c, e = .returned (.slice (some ⟨r, 0, none⟩) n c) ∧ w'.ownsRow w.heap.size 81 2 (.slice (some ⟨r, 0, none⟩) n c) n vs ∧ Grow w w' := by
  have Hs := Lib.hid ((h.grow ((Keep.refl _ _).alloc (.cells #[] 81))).src u_grams h1)
  have HL := Lib.hid hl
  clear hl
  have hq := eql_nil u_grams
  obtain ⟨A, c, rfl, hlc, _, hA, _⟩ := h
  cases A with
  | none => exact absurd (by have := hA rfl; subst this; have : n = 0 := by omega
                             rw [this]) hv
  | some ad =>
    clear hv hA
    go_enter Try.func53, Try.ntmps53
    go_wp2_with (at_builtin; refine wpList_app _ rfl _ _ 74 74 rfl w.heap.size 81 (.agg #[.int .i64 0, .slice none 0 0]) 2 32 u_grams info_gram rfl (.slice (some ⟨w.heap.size, 0, none⟩) 0 0) 0 [] rfl (.slice (some ad) n c) n vs rfl ?_ ?c0 ?c1 ?c2 ?c3 ?c4; intro v' w' hap)
    case c0 => exact World.ownsRow_made w #[] 0 (Nat.le_refl _) (by simp [maxLen]) rfl
    case c1 => exact Hs.out
    case c2 => have := HL.out; simp only [maxLen]; omega
    case c3 => have := HL.out; omega
    case c4 => simp
    have ho := hap.own
    have hn := hap.nil
    simp only [Nat.zero_add, List.nil_append] at ho
    have hg := ((Keep.refl NoB w).alloc (.cells #[] 81)).grown hap.grew (by simp [Value.ownBlock])
    clear hap
    obtain ⟨r, c2, rfl⟩ : ∃ r c, v' = .slice (some ⟨r, 0, none⟩) n c := by
      rcases ho.2 with ⟨rfl, _⟩ | ⟨g, cap, cur, rfl, _⟩
      · simp at hn
      · exact ⟨g, cap, rfl⟩
    clear hn
    go_wp2
    go_ret
    exact ⟨_, _, rfl, ho, hg⟩

theorem setRow_keep (w : World) (g : Nat) (cs : Array Value) : Keep (fun k => k = g) w (w.setRow g cs) :=
  ⟨rfl, rfl, rfl, by simp, fun k _ hk => setRow_other w g k _ hk⟩

theorem gdel_row {r m c i base : Nat} {vs : List Value} {cur cur2 cur3 : Array Value} {w2 : World} (hb : base ≤ r) (hmc : m + 1 ≤ c) (hcm : c ≤ maxLen) (hcs : cur.size = c * 2) (hvl : vs.length = (m + 1) * 2) (ht : cur.toList.take ((m + 1) * 2) = vs) (hi : i ≤ m)
    (hcur2 : (cur.toList.take (i * 2) ++ vs.drop ((i + 1) * 2) ++ cur.toList.drop (i * 2 + (vs.drop ((i + 1) * 2)).length)).toArray = cur2) (hg2 : w2.heap[r]? = some (.cells cur2 81 (0, 0)))
    (hcur3 : (cur2.toList.take (m * 2) ++ (Builtin.zeroCells (Value.agg #[.int .i64 0, .slice none 0 0]).cells 1).toList ++ cur2.toList.drop (m * 2 + 1 * (Value.agg #[.int .i64 0, .slice none 0 0]).cells.size)).toArray = cur3) :
    (w2.setRow r cur3).ownsRow base 81 2 (.slice (some ⟨r, 0, none⟩) m c) m (vs.take (i * 2) ++ vs.drop ((i + 1) * 2)) := by
  have h1 : cur.toList.take (i * 2) = vs.take (i * 2) := by rw [← ht, List.take_take]; congr 1; omega
  have hl2 : (vs.take (i * 2) ++ vs.drop ((i + 1) * 2)).length = m * 2 := by
    rw [List.length_append, List.length_take, List.length_drop, hvl]; omega
  have h2 : cur2.toList = (vs.take (i * 2) ++ vs.drop ((i + 1) * 2)) ++ cur.toList.drop (i * 2 + (vs.drop ((i + 1) * 2)).length) := by
    rw [← hcur2, h1]
  have h3 : cur2.toList.take (m * 2) = vs.take (i * 2) ++ vs.drop ((i + 1) * 2) := by
    rw [h2, ← hl2]; exact List.take_left
  have h4 : cur2.toList.length = c * 2 := by
    rw [h2, List.length_append, hl2, List.length_drop, List.length_drop, Array.length_toList, hcs, hvl]; omega
  have hz : (Builtin.zeroCells (Value.agg #[.int .i64 0, .slice none 0 0]).cells 1).toList.length = 2 := by
    rw [Array.length_toList, size_zeroCells]; rfl
  refine ⟨hl2, .inr ⟨r, c, cur3, rfl, hb, setRow_heap w2 r cur2 cur3 _ _ hg2, by omega, hcm, ?_, ?_⟩⟩
  · rw [← hcur3, List.size_toArray, List.length_append, List.length_append, List.length_take, List.length_drop, hz, h4]
    simp [Value.cells]
    omega
  · rw [← hcur3]
    simp only [h3]
    rw [List.append_assoc, ← hl2]
    exact List.take_left

set_option maxRecDepth 100000 in
set_option maxHeartbeats 1000000 in
theorem gdel_calls (r m c i base : Nat) (vs : List Value) (w : World) (h : w.ownsRow base 81 2 (.slice (some ⟨r, 0, none⟩) (m + 1) c) (m + 1) vs) (hi : i ≤ m) (hn : m ≤ 1000) (hone : ∀ u ∈ vs, u.oneCell' = true) :
    Calls Try.prog 52 #[.slice (some ⟨r, 0, none⟩) (m + 1) c, .int .i64 i, .int .i64 (i + 1)] w fun e w' => e = .returned (.slice (some ⟨r, 0, none⟩) m c) ∧ w'.ownsRow base 81 2 (.slice (some ⟨r, 0, none⟩) m c) m (vs.take (i * 2) ++ vs.drop ((i + 1) * 2)) ∧ Keep (fun k => k = r) w w' := by
  obtain ⟨hvl, hn0 | ⟨g, cap, cur, hv, hbg, hg, hnc, hcm, hcs, ht⟩⟩ := h
  · cases hn0.1
  injection hv with hv1 hv2 hv3
  injection hv1 with hv1
  injection hv1 with hv1
  subst hv1
  subst hv3
  have b1 : (0 : Int) ≤ i := by omega
  have b2 : (i : Int) ≤ i + 1 := by omega
  have b3 : (i : Int) + 1 ≤ (m : Int) + 1 := by omega
  have b4 : (m : Int) + 1 ≤ c := by omega
  have b5 : i ≤ c := by omega
  have b6 : (0 : Int) ≤ (i : Int) + 1 := by omega
  have b7 : i ≤ m + 1 := by omega
  have b8 : ¬ (c = m) := by omega
  have HT := Lib.hid ht
  have HV := Lib.hid hvl
  have HS := Lib.hid hcs
  clear ht hvl hcs hv2
  have hsrc : Src Try.prog 2 74 (.slice (if c = i + 1 then some ⟨r, 0, none⟩ else some ⟨r, (i + 1) * 2, none⟩) (m - i) (c - (i + 1))) (m - i) (vs.drop ((i + 1) * 2)) w.drew := by
    have e1 : (if c = i + 1 then some (⟨r, 0, none⟩ : Addr) else some ⟨r, (i + 1) * 2, none⟩) = some (if c = i + 1 then ⟨r, 0, none⟩ else ⟨r, (i + 1) * 2, none⟩) := by split <;> rfl
    rw [e1]
    refine Src.ofSlice _ u_grams _ _ _ _ (by rw [List.length_drop, HV.out]; omega) (fun j u hj => ?_) (fun u hu => hone u (List.mem_of_mem_drop hu))
    by_cases hce : c = i + 1
    · rw [List.getElem?_eq_none (by rw [List.length_drop, HV.out]; omega)] at hj
      cases hj
    · rw [if_neg hce, show (⟨r, (i + 1) * 2, none⟩ : Addr).add j = ⟨r, (i + 1) * 2 + j, none⟩ from Addr.add_lit ..]
      show w.cell? _ = _
      rw [cell_of_row w r _ cur _ _ hg]
      rw [List.getElem?_drop, ← HT.out] at hj
      rw [List.getElem?_take] at hj
      split at hj
      · simpa using hj
      · cases hj
  have Hsrc := Lib.hid hsrc
  clear hsrc
  go_enter Try.func52, Try.ntmps52
  go_wp2
  refine region_ord [0, 1, 2, 3, 4, 5, 6, 7] [6, 7] [] [6] rfl (by kernel_rfl) ?_
  iterate 6
    refine ord_pure rfl rfl rfl rfl rfl (fun _ _ _ _ h => h) ?_ ?_ ?_ ?_ ?_
    rotate_left 2
    · intro w'; go_simp; with_reducible rfl
    · simp only [Act.put, List.setIfInBounds_toArray, List.set_cons_zero, List.set_cons_succ]; rfl
  generalize (Value.slice (if c = i + 1 then some (⟨r, 0, none⟩ : Addr) else some ⟨r, (i + 1) * 2, none⟩) (m - i) (c - (i + 1))) = sv at *
  refine ord_act rfl rfl (fun K hK => ?_)
  refine step_room _ rfl _ _ 74 74 rfl 81 (.agg #[.int .i64 0, .slice none 0 0]) 2 32 u_grams info_gram r i c cur rfl _ (m - i) (vs.drop ((i + 1) * 2)) rfl ?_ hg Hsrc.out (by omega) ?_
  rotate_left
  · rw [List.length_drop, HV.out, HS.out]; omega
  refine hK _ _ ⟨fun h => absurd (by simp) h, ?_⟩
  clear hK K
  simp only [Act.put, List.setIfInBounds_toArray, List.set_cons_zero, List.set_cons_succ]
  rw [show i + (m - i) = m from by omega]
  refine ord_set rfl rfl rfl rfl ?_ ?_ ?_ ?_ ?_
  rotate_left 2
  · go_simp; with_reducible rfl
  · simp only [Act.put, List.setIfInBounds_toArray, List.set_cons_zero, List.set_cons_succ]; rfl
  refine ord_nil ?_
  have hg2 := setRow_heap w.drew r cur ((cur.toList.take (i * 2) ++ vs.drop ((i + 1) * 2) ++ cur.toList.drop (i * 2 + (vs.drop ((i + 1) * 2)).length)).toArray) _ _ hg
  have hk2 := (Keep.refl (fun k => k = r) w).drew.trans (setRow_keep w.drew r ((cur.toList.take (i * 2) ++ vs.drop ((i + 1) * 2) ++ cur.toList.drop (i * 2 + (vs.drop ((i + 1) * 2)).length)).toArray)) (fun i hi => .inl hi)
  generalize hcur2 : (cur.toList.take (i * 2) ++ vs.drop ((i + 1) * 2) ++ cur.toList.drop (i * 2 + (vs.drop ((i + 1) * 2)).length)).toArray = cur2 at *
  generalize w.drew.setRow r cur2 = w2 at *
  have hsz2 : Hid (cur2.size = c * 2) := by
    show cur2.size = c * 2
    rw [← hcur2, List.size_toArray, List.length_append, List.length_append, List.length_take, List.length_drop, List.length_drop, Array.length_toList, HV.out, HS.out]
    omega
  have HC := Lib.hid hcur2
  clear hcur2
  go_wp2_with ((with_reducible refine wpList_clear _ rfl _ 74 rfl 81 (.agg #[.int .i64 0, .slice none 0 0]) 2 32 u_grams info_gram ?d0 r (m * 2) 1 (c - m) cur2 ?d1 ?_ hg2 ?d2 ?d4))
  case d0 => simp [Value.cells, Value.oneCell']
  case d1 => rfl
  case d2 => omega
  case d4 => rw [hsz2.out]; simp [Value.cells]; omega
  go_wp2
  go_ret
  refine ⟨rfl, ?_, hk2.trans (setRow_keep _ _ _) (fun i hi => .inl hi)⟩
  exact gdel_row hbg hnc hcm HS.out HV.out HT.out hi HC.out hg2 (by simp [Value.cells])
end Go.Proofs.Ytimpnbkincgbmaa

import Derived.Test.YtimpnbkincgbmaaNetH
import Derived.Test.YtimpnbkincgbmaaArgs
import Derived.LoopTactic
set_option linter.unusedSimpArgs false
set_option linter.unusedVariables false
namespace Go.Proofs.Ytimpnbkincgbmaa
open Go.RowKit

/-- What NetBends has pushed. -/
def grams (ls : List (List Int)) (k : Nat) : List G := (List.range k).map fun i => (((i % 2 : Nat) : Int), (ls.getD i []).take 200)
theorem grams_succ (ls : List (List Int)) (k : Nat) : grams ls (k + 1) = grams ls k ++ [(((k % 2 : Nat) : Int), (ls.getD k []).take 200)] := by
  simp [grams, List.range_succ]
theorem grams_length (ls : List (List Int)) (k : Nat) : (grams ls k).length = k := by simp [grams]
theorem grams_get (ls : List (List Int)) (k i : Nat) (h : i < (grams ls k).length) : (grams ls k)[i] = (((i % 2 : Nat) : Int), (ls.getD i []).take 200) := by simp [grams]

theorem bendl_grams (ls : List (List Int)) (n t k : Nat) (b : List Int) (h : k < (bendl (grams ls n) t b).length) :
    (bendl (grams ls n) t b)[k] = (((k % 2 : Nat) : Int), if k = t ∧ b.length ≤ 200 then b else (ls.getD k []).take 200) := by
  have hk : k < n := by rw [bendl_length, grams_length] at h; exact h
  by_cases hb : b.length ≤ 200
  · by_cases hkt : k = t
    · subst hkt
      simp [bendl, hb, grams, hk]
    · simp [bendl, hb, grams, hkt, List.getElem_set_ne (Ne.symm hkt)]
  · simp [bendl, hb, grams]

set_option maxRecDepth 100000 in
set_option maxHeartbeats 1000000 in
theorem bends_calls (A : Option Addr) (cap : Nat) (ls : List (List Int)) (i : Int) (B : Option Addr) (cb : Nat) (b : List Int) (W : World) (hls : BssR A ls W) (hcap : ls.length ≤ cap) (hcapm : cap ≤ maxLen) (hi0 : 0 ≤ i) (hi1 : i < 256)
    (hb : SliceR 1 (.slice B b.length cb) b.length (u8s b) W) :
    Calls Try.prog 3 #[.slice A ls.length cap, .int .u8 i, .slice B b.length cb] W fun e w' => e = .returned (.bool true) ∧ Grow W w' := by
  by_cases hg0 : ls.length = 0
  · have q0 : ((ls.length : Int) == 0) = true := beq_iff_eq.2 (by omega)
    have q1 : ¬ 20 < ls.length := by omega
    clear hg0 hls hb
    go_enter Try.func3, Try.ntmps3
    go_wp2_with fail
    refine (nknown_calls W).mono ?_
    rintro e w1 ⟨rfl, h1⟩
    go_wp2
    go_ret
    exact ⟨rfl, h1⟩
  by_cases hg : 20 < ls.length
  · clear hls hb
    go_enter Try.func3, Try.ntmps3
    go_wp2_with fail
    refine (nknown_calls W).mono ?_
    rintro e w1 ⟨rfl, h1⟩
    go_wp2
    go_ret
    exact ⟨rfl, h1⟩
  have hn1 : ¬ 20 < ls.length := by omega
  have hn0 : 0 < ls.length := by omega
  have q0 : ((ls.length : Int) == 0) = false := beq_eq_false_iff_ne.2 (by omega)
  have Hls := Lib.hid hls
  have Hb := Lib.hid hb
  clear hls hb hg
  go_enter Try.func3, Try.ntmps3
  go_wp2_with fail
  refine (net_new W).mono ?_
  rintro e w1 ⟨g, F, rfl, hN, h1, hF⟩
  have HN := Lib.hid hN
  clear hN
  go_wp2
  go_loopw [8] (fun v wr => ∃ k : Nat, k ≤ ls.length ∧ v = .int .i64 k ∧ ∃ F, Hid (Net g (grams ls k) F wr ∧ (∀ x, F x → W.heap.size ≤ x) ∧ Grow W wr)) (fun v _ => ls.length - (intOf v).toNat)
  case atStart => exact ⟨0, by omega, rfl, F, HN.out, hF, h1⟩
  case round =>
    obtain ⟨k, hk, rfl, F, HNk⟩ := hrel
    by_cases hlt : k < ls.length
    · obtain ⟨hN, hF, h1⟩ := HNk.out
      obtain ⟨ad, A', c', rfl, hc, hlc, hcm, hs⟩ := Hls.out.grow h1 k hlt
      have hk0 : (0 : Int) ≤ k := by omega
      have hk1 : (k : Int) < ls.length := by omega
      have hcd : wr.drew.cell? (ad.add k) = some (.slice A' ls[k].length c') := by simpa using hc
      generalize hx : ls[k] = x at *
      have Hx := Lib.hid hx
      clear hx
      go_wp2
      refine region_ord [0, 1, 2, 3, 4, 5, 6, 7, 8, 9, 10, 11, 12, 13, 14] [14] [6, 10] [14] rfl (by kernel_rfl) ?_
      iterate 6
        refine ord_pure rfl rfl rfl rfl rfl (fun _ _ _ _ h => h) ?_ ?_ ?_ ?_ ?_
        rotate_left 2
        · intro w'; go_simp; with_reducible rfl
        · simp only [Act.put, List.setIfInBounds_toArray, List.set_cons_zero, List.set_cons_succ]; rfl
      refine ord_read rfl rfl rfl rfl rfl (fun _ _ _ _ h => h) ?_ ?_ ?_ ?_ ?_
      rotate_left 2
      · intro w' hg; have q := hg.cell hcd (fun h => h); go_simp; with_reducible rfl
      · simp only [Act.put, List.setIfInBounds_toArray, List.set_cons_zero, List.set_cons_succ]; rfl
      iterate 3
        refine ord_pure rfl rfl rfl rfl rfl (fun _ _ _ _ h => h) ?_ ?_ ?_ ?_ ?_
        rotate_left 2
        · intro w'; go_simp; with_reducible rfl
        · simp only [Act.put, List.setIfInBounds_toArray, List.set_cons_zero, List.set_cons_succ]; rfl
      refine ord_read rfl rfl rfl rfl rfl (fun _ _ _ _ h => h) ?_ ?_ ?_ ?_ ?_
      rotate_left 2
      · intro w' hg; have q := hg.cell hcd (fun h => h); go_simp; with_reducible rfl
      · simp only [Act.put, List.setIfInBounds_toArray, List.set_cons_zero, List.set_cons_succ]; rfl
      iterate 2
        refine ord_pure rfl rfl rfl rfl rfl (fun _ _ _ _ h => h) ?_ ?_ ?_ ?_ ?_
        rotate_left 2
        · intro w'; go_simp; with_reducible rfl
        · simp only [Act.put, List.setIfInBounds_toArray, List.set_cons_zero, List.set_cons_succ]; rfl
      obtain ⟨m, hm, hm1, hm2⟩ : ∃ m : Nat, (if (200 : Int) < (x.length : Int) then (200 : Int) else (x.length : Int)) = (m : Int) ∧ m ≤ x.length ∧ (m = 200 ∨ m = x.length ∧ m ≤ 200) := by
        by_cases h : 200 < x.length
        · exact ⟨200, by rw [if_pos (by omega)]; rfl, by omega, .inl rfl⟩
        · exact ⟨x.length, by rw [if_neg (by omega)], by omega, .inr ⟨rfl, by omega⟩⟩
      rw [hm, show ((k : Int)).tmod 2 = ((k % 2 : Nat) : Int) from by rw [Int.tmod_eq_emod_of_nonneg hk0]; rfl]
      have Hm := Lib.hid hm
      clear hm
      have hmc : m ≤ c' := by omega
      refine ord_pure rfl rfl rfl rfl rfl (fun _ _ _ _ h => h) ?_ ?_ ?_ ?_ ?_
      rotate_left 2
      · intro w'; go_simp; with_reducible rfl
      · simp only [Act.put, List.setIfInBounds_toArray, List.set_cons_zero, List.set_cons_succ]; rfl
      refine ord_call rfl rfl rfl rfl rfl Try.func16 rfl rfl [.pointer (some ⟨g, 0, none⟩), .int .i64 ((k % 2 : Nat) : Int), .slice A' m c'] rfl ?_
      have hxm : (x.take m).length = m := by rw [List.length_take]; omega
      have hst : SliceR 1 (.slice A' m c') (x.take m).length (u8s (x.take m)) wr.drew := by
        rw [hxm]
        exact (hs.take hm1).grow ((Keep.refl _ _).drew)
      refine (push_yes g (grams ls k) F wr.drew (hN.keep (Keep.refl NoB wr).drew (fun _ _ h => h)) _ (by omega) (by omega) _ (x.take m) hst (by omega) (by rw [grams_length]; omega)).mono ?_
      rintro e w2 ⟨rfl, F2, hN2, h2, hF2⟩
      have hx2 : x.take m = (ls.getD k []).take 200 := by
        rw [List.getD_eq_getElem?_getD, List.getElem?_eq_getElem hlt, Option.getD_some, Hx.out]
        rcases hm2 with h | h
        · rw [h]
        · rw [List.take_of_length_le (by omega), List.take_of_length_le (by omega)]
      rw [hx2, ← grams_succ] at hN2
      have HN2 := Lib.hid hN2
      have hF' : Hid (∀ y, F2 y → W.heap.size ≤ y) := fun y hy => (hF2 y hy).elim (hF y) (fun h => Nat.le_trans h1.size h)
      have hG' : Hid (Grow W w2) := (Keep.trans (S := F) (h1.mono (fun _ h => h.elim)) ((Keep.refl _ wr).drew.trans h2 (fun i hi => .inl hi)) (fun i hi => .inl hi)).new hF
      refine ⟨_, rfl, fun h => absurd (by simp) h, ?_⟩
      clear hN2 hxm hst hx2
      simp only [Act.put, List.setIfInBounds_toArray, List.set_cons_zero, List.set_cons_succ]
      refine ord_nil ?_
      go_wp2
      go_roundw
      case rel => exact ⟨k + 1, by omega, by go_num, F2, HN2.out, hF'.out, hG'.out⟩
      case measure => simp [intOf]; omega
    · obtain rfl : k = ls.length := by omega
      obtain ⟨hN, hF, h1⟩ := HNk.out
      clear HN HNk
      have hr0 : (0 : Int) ≤ i := hi0
      have hr1 : ¬ ((ls.length : Int) = 0) := by omega
      have HN := Lib.hid hN
      clear hN
      go_wp2_with fail
      obtain ⟨t, ht, htl⟩ : ∃ t : Nat, i % (ls.length : Int) = (t : Int) ∧ t < ls.length :=
        ⟨(i % (ls.length : Int)).toNat, (Int.toNat_of_nonneg (Int.emod_nonneg i hr1)).symm, by have := Int.emod_nonneg i hr1; have := Int.emod_lt_of_pos i (b := (ls.length : Int)) (by omega); omega⟩
      rw [ht]
      clear ht hr1 hr0 hlt hk
      refine (bend_any g (grams ls ls.length) F t B cb b wr HN.out (by rw [grams_length]; exact htl) (Hb.out.grow h1)).mono ?_
      rintro e w2 ⟨rfl, F2, hN2, h2, hF2⟩
      have HN2 := Lib.hid hN2
      have hF2' : Hid (∀ y, F2 y → W.heap.size ≤ y) := fun y hy => (hF2 y hy).elim (hF y) (fun h => Nat.le_trans h1.size h)
      have hG2 : Hid (Grow W w2) := (Keep.trans (S := F) (h1.mono (fun _ h => h.elim)) h2 (fun i hi => .inl hi)).new hF
      clear hN2 hF2 h2 h1 HN
      go_wp2
      go_loopw [11] (fun v wr => ∃ k : Nat, k ≤ ls.length ∧ v = .int .i64 k ∧ Hid (Grow w2 wr)) (fun v _ => ls.length - (intOf v).toNat)
      case atStart => exact ⟨0, by omega, rfl, Keep.refl _ _⟩
      case round =>
        obtain ⟨k, hk, rfl, hk2⟩ := hrel
        by_cases hlt : k < ls.length
        · have hNk := HN2.out.keep hk2.out (fun _ _ h => h)
          have hlk : k < (bendl (grams ls ls.length) t b).length := by rw [bendl_length, grams_length]; exact hlt
          have HNk := Lib.hid hNk
          have Hlk := Lib.hid hlk
          clear hNk hlk
          go_wp2_with fail
          refine (nat_yes g _ F2 k _ HNk.out Hlk.out).mono ?_
          rintro e w4 ⟨A4, c4, rfl, ho4, h4⟩
          rw [bendl_grams] at ho4 ⊢
          obtain ⟨ad, A', c', rfl, hc, hlc, hcm, hs⟩ := (Hls.out.grow hG2.out).grow hk2.out |>.grow h4 k hlt
          have hgd : ls.getD k [] = ls[k] := by rw [List.getD_eq_getElem?_getD, List.getElem?_eq_getElem hlt, Option.getD_some]
          rw [hgd] at ho4 ⊢
          clear hgd
          generalize hx : ls[k] = x at *
          generalize hy : (if k = t ∧ b.length ≤ 200 then b else x.take 200) = y at *
          have Hx := Lib.hid hx
          have Hy := Lib.hid hy
          have Ho4 := Lib.hid ho4
          clear hx hy ho4
          have hk0 : (0 : Int) ≤ k := by omega
          have hk1 : (k : Int) < ls.length := by omega
          have hcd : w4.drew.cell? (ad.add k) = some (.slice A' x.length c') := by simpa using hc
          go_wp2
          refine region_ord [0, 1, 2, 3, 4, 5, 6, 7, 8, 9, 10, 11, 12] [12] [3, 7, 11] [] rfl (by kernel_rfl) ?_
          iterate 3
            refine ord_pure rfl rfl rfl rfl rfl (fun _ _ _ _ h => h) ?_ ?_ ?_ ?_ ?_
            rotate_left 2
            · intro w'; go_simp; with_reducible rfl
            · simp only [Act.put, List.setIfInBounds_toArray, List.set_cons_zero, List.set_cons_succ]; rfl
          refine ord_read rfl rfl rfl rfl rfl (fun _ _ _ _ h => h) ?_ ?_ ?_ ?_ ?_
          rotate_left 2
          · intro w' hg; have q := hg.cell hcd (fun h => h); go_simp; with_reducible rfl
          · simp only [Act.put, List.setIfInBounds_toArray, List.set_cons_zero, List.set_cons_succ]; rfl
          iterate 3
            refine ord_pure rfl rfl rfl rfl rfl (fun _ _ _ _ h => h) ?_ ?_ ?_ ?_ ?_
            rotate_left 2
            · intro w'; go_simp; with_reducible rfl
            · simp only [Act.put, List.setIfInBounds_toArray, List.set_cons_zero, List.set_cons_succ]; rfl
          refine ord_read rfl rfl rfl rfl rfl (fun _ _ _ _ h => h) ?_ ?_ ?_ ?_ ?_
          rotate_left 2
          · intro w' hg; have q := hg.cell hcd (fun h => h); go_simp; with_reducible rfl
          · simp only [Act.put, List.setIfInBounds_toArray, List.set_cons_zero, List.set_cons_succ]; rfl
          iterate 2
            refine ord_pure rfl rfl rfl rfl rfl (fun _ _ _ _ h => h) ?_ ?_ ?_ ?_ ?_
            rotate_left 2
            · intro w'; go_simp; with_reducible rfl
            · simp only [Act.put, List.setIfInBounds_toArray, List.set_cons_zero, List.set_cons_succ]; rfl
          obtain ⟨m, hm, hm1, hm2⟩ : ∃ m : Nat, (if (200 : Int) < (x.length : Int) then (200 : Int) else (x.length : Int)) = (m : Int) ∧ m ≤ x.length ∧ (m = 200 ∨ m = x.length ∧ m ≤ 200) := by
            by_cases h : 200 < x.length
            · exact ⟨200, by rw [if_pos (by omega)]; rfl, by omega, .inl rfl⟩
            · exact ⟨x.length, by rw [if_neg (by omega)], by omega, .inr ⟨rfl, by omega⟩⟩
          rw [hm]
          clear hm
          have hmc : m ≤ c' := by omega
          have hxm : (x.take m).length = m := by rw [List.length_take]; omega
          have hst := (hs.take hm1).grow ((Keep.refl _ _).drew)
          have hx2 : x.take m = x.take 200 := by
            rcases hm2 with h | h
            · rw [h]
            · rw [List.take_of_length_le (by omega), List.take_of_length_le (by omega)]
          have Hx2 := Lib.hid hx2
          clear hx2 hxm
          refine ord_pure rfl rfl rfl rfl rfl (fun _ _ _ _ h => h) ?_ ?_ ?_ ?_ ?_
          rotate_left 2
          · intro w'; go_simp; with_reducible rfl
          · simp only [Act.put, List.setIfInBounds_toArray, List.set_cons_zero, List.set_cons_succ]; rfl
          refine ord_read rfl rfl rfl rfl rfl (fun _ _ _ _ h => h) ?_ ?_ ?_ ?_ ?_
          rotate_left 2
          · intro w' hg; have q := conv_str (hst.grow hg); go_simp; with_reducible rfl
          · simp only [Act.put, List.setIfInBounds_toArray, List.set_cons_zero, List.set_cons_succ]; rfl
          refine ord_set rfl rfl rfl rfl ?_ ?_ ?_ ?_ ?_
          rotate_left 2
          · go_simp; with_reducible rfl
          · simp only [Act.put, List.setIfInBounds_toArray, List.set_cons_zero, List.set_cons_succ]; rfl
          refine ord_nil ?_
          have q2 : ((k : Int) % 2 != (k : Int).tmod 2) = false := by rw [Int.tmod_eq_emod_of_nonneg hk0]; simp
          have q3 := conv_str ((SliceR.of_own Ho4.out).grow ((Keep.refl _ _).drew))
          have hG4 : Hid (Grow w2 w4.drew) := (hk2.out.grow h4).drew
          have hby : (k = t ∧ b.length ≤ 200 ∧ y = b) ∨ ((k ≠ t ∨ 200 < b.length) ∧ y = x.take m) := by
            have := Hy.out
            by_cases hc : k = t ∧ b.length ≤ 200
            · rw [if_pos hc] at this
              exact .inl ⟨hc.1, hc.2, this.symm⟩
            · rw [if_neg hc] at this
              exact .inr ⟨by omega, by rw [Hx2.out]; exact this.symm⟩
          clear Hx2 Hy hs hst hc hcd hlc hcm
          rcases hby with ⟨hkt, hbl, hy⟩ | ⟨hno, hy⟩
          · subst hkt
            subst hy
            have q4 := conv_str ((Hb.out.grow hG2.out).grow hG4.out)
            go_wp2
            go_roundw
            case rel => exact ⟨k + 1, by omega, by go_num, hG4.out⟩
            case measure => simp [intOf]; omega
          · have q6 : ((strOfNums y).toList == (strOfNums (x.take m)).toList) = true := by rw [hy]; simp
            clear hy
            by_cases hkt : k = t
            · subst hkt
              have hbl : ¬ ((b.length : Int) ≤ 200) := by omega
              go_wp2
              go_roundw
              case rel => exact ⟨k + 1, by omega, by go_num, hG4.out⟩
              case measure => simp [intOf]; omega
            · have q5 : ((k : Int) == (t : Int)) = false := beq_eq_false_iff_ne.2 (by omega)
              go_wp2
              go_roundw
              case rel => exact ⟨k + 1, by omega, by go_num, hG4.out⟩
              case measure => simp [intOf]; omega
        · obtain rfl : k = ls.length := by omega
          have hl2 : (bendl (grams ls ls.length) t b).length = ls.length := by rw [bendl_length, grams_length]
          have Hl2 := Lib.hid hl2
          clear hl2 hlt hk
          go_wp2_with fail
          refine (nknown_calls wr).mono ?_
          rintro e w4 ⟨rfl, h4⟩
          go_wp2_with fail
          refine (nlen_calls g _ F2 w4 (HN2.out.keep (hk2.out.grow h4) (fun _ _ h => h))).mono ?_
          rintro e w5 ⟨rfl, rfl⟩
          rw [Hl2.out]
          go_wp2_with fail
          refine (bend_no g _ F2 ls.length none 0 0 w4 (HN2.out.keep (hk2.out.grow h4) (fun _ _ h => h)) (by rw [Hl2.out]; omega)).mono ?_
          rintro e w6 ⟨rfl, rfl⟩
          go_wp2
          go_ret
          exact ⟨rfl, (hG2.out.grow hk2.out).grow h4⟩
end Go.Proofs.Ytimpnbkincgbmaa

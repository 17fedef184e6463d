import Derived.Test.YtimpnbkincgbmaaTmV
set_option linter.unusedSimpArgs false
set_option linter.unusedVariables false
namespace Go.Proofs.Ytimpnbkincgbmaa
open Go.RowKit

theorem tm16_ok {l : List Int} (h : ∀ x ∈ l, (Lit.int .i16 x).wf = true) (i : Nat) : -32768 ≤ tm l i ∧ tm l i ≤ 32767 := by
  unfold tm
  rw [List.getD_eq_getElem?_getD]
  by_cases hi : i < l.length
  · rw [List.getElem?_eq_getElem hi]
    have := h l[i] (List.getElem_mem hi)
    simpa [Lit.wf, show IntKind.i16.min = -32768 from rfl, show IntKind.i16.max = 32767 from rfl] using this
  · rw [List.getElem?_eq_none (by omega)]
    simp
theorem rest_sl_succ (f : Nat → Int) (now : Int) (i : Nat) : (restL (sl f (i + 1)) now).length = (restL (sl f i) now).length + if f i ≤ now then 0 else 1 := by
  unfold restL sl
  rw [List.range_succ, List.map_append, List.filter_append, List.length_append]
  congr 1
  by_cases h : f i ≤ now
  · have h2 : ¬ (now < f i) := by omega
    simp [h, h2]
  · have h2 : now < f i := by omega
    simp [h, h2]

set_option maxRecDepth 100000 in
set_option maxHeartbeats 2000000 in
theorem sorts_calls (A : Option Addr) (cap : Nat) (l : List Int) (now : Int) (W : World) (hl : SliceR 1 (.slice A l.length cap) l.length (l.map (Value.int .i16)) W) (hwf : ∀ x ∈ l, (Lit.int .i16 x).wf = true) (hnow : -32768 ≤ now ∧ now ≤ 32767) :
    Calls Try.prog 7 #[.slice A l.length cap, .int .i16 now] W fun e w' => e = .returned (.bool true) ∧ Grow W w' := by
  have HL := Lib.hid hl
  have HW := Lib.hid hwf
  clear hl hwf
  by_cases hbig : 100 < (l.length : Int)
  · go_enter Try.func7, Try.ntmps7
    go_wp2_with fail
    refine (tknown_calls (Keep.refl NoB W)).mono ?_
    rintro e w1 ⟨rfl, h1⟩
    go_wp2
    go_ret
    exact ⟨rfl, h1⟩
  · go_enter Try.func7, Try.ntmps7
    go_wp2_with fail
    refine (tst_new (Keep.refl NoB W)).mono ?_
    rintro e w1 ⟨q, F, rfl, h1, -, -⟩
    have HS : Hid (TSt W q (sl (tm l) 0) F w1) := h1
    clear h1
    go_wp2
    go_loopw [6, 7] (fun vn v wr => ∃ i n : Nat, i ≤ l.length ∧ v = .int .i64 i ∧ vn = .int .i64 n ∧ n + (restL (sl (tm l) i) now).length = i ∧ ∃ F, Hid (TSt W q (sl (tm l) i) F wr)) (fun _ v _ => l.length - (intOf v).toNat)
    case atStart => exact ⟨0, 0, by omega, rfl, rfl, by simp [restL, sl], F, HS⟩
    case round =>
      clear HS F
      obtain ⟨i, n, hi, rfl, rfl, hcnt, F, HS⟩ := hrel
      by_cases hlt : i < l.length
      · have hlt' : (i : Int) < l.length := by omega
        have hw : IntKind.i64.wrap ((i : Int) + 1) = (i : Int) + 1 := IntWalk.i64_in _ (by omega)
        have hwn : IntKind.i64.wrap ((n : Int) + 1) = (n : Int) + 1 := IntWalk.i64_in _ (by omega)
        have hok := okI_of (k := (i : Int)) (by omega) (by omega)
        have hsucc := rest_sl_succ (tm l) now i
        obtain ⟨a1, rfl, q1⟩ := SliceR.at_ (HL.out.grow HS.out.grow) i (by simpa using hlt)
        have e1 : (l.map (Value.int .i16))[i]'(by simpa using hlt) = .int .i16 (tm l i) := by simp [tm, hlt]
        rw [e1] at q1
        obtain ⟨t0, t1⟩ := tm16_ok HW.out i
        have hwc : IntKind.i64.wrap (tm l i) = tm l i := IntWalk.i64_in _ (by omega)
        have Hs := Lib.hid (And.intro hsucc hcnt)
        clear hsucc hcnt
        go_wp2_with fail
        refine (tst_set HS.out i hok (tm l i)).mono ?_
        rintro e w3 ⟨rfl, F2, h3, -, -⟩
        rw [rSet_sl (tm l) i (by omega)] at h3
        have HS3 := Lib.hid h3
        obtain ⟨a2, ha2, q2⟩ := SliceR.at_ (HL.out.grow HS3.out.grow) i (by simpa using hlt)
        injection ha2 with ha2
        subst ha2
        rw [e1] at q2
        clear h3 HS q1 e1
        by_cases hle : tm l i ≤ now
        · go_wp2
          go_roundw
          case rel => exact ⟨i + 1, n + 1, by omega, by go_num, by go_num, by have := Hs.out.1; have := Hs.out.2; rw [if_pos hle] at *; omega, F2, HS3⟩
          case measure => simp [intOf]; omega
        · have hnle : ¬ (tm l i ≤ now) := hle
          have Hc : Hid (n + (restL (sl (tm l) (i + 1)) now).length = i + 1) := by
            have h1 := Hs.out.1
            have h2 := Hs.out.2
            rw [if_neg hle] at h1
            show _ = _
            omega
          go_wp2
          go_roundw
          case rel => exact ⟨i + 1, n, by omega, by go_num, rfl, Hc.out, F2, HS3⟩
          case measure => simp [intOf]; omega
      · obtain rfl : i = l.length := by omega
        clear hlt
        have hwc : IntKind.i64.wrap now = now := IntWalk.i64_in _ (by omega)
        have hwl : IntKind.i64.wrap ((l.length : Int) - (n : Int)) = (l.length : Int) - (n : Int) := IntWalk.i64_in _ (by omega)
        have Hc := Lib.hid hcnt
        have hnl : n ≤ l.length := by omega
        clear hcnt
        go_wp2_with fail
        refine (tst_due HS.out now).mono ?_
        rintro e w4 ⟨d, A4, c4, rfl, hd, h4, hK4, ho4⟩
        have hdn : d.length = n := by
          have h1 := hd.len
          rw [sl_length] at h1
          have := Hc.out
          omega
        subst hdn
        have hrl : ((restL (sl (tm l) l.length) now).length : Int) = (l.length : Int) - (d.length : Int) := by have := Hc.out; omega
        have HT := Lib.hid h4
        have Ho4 := Lib.hid (SliceR.of_own ho4)
        have Hd := Lib.hid hd
        clear h4 hK4 ho4 hd HS
        go_wp2_with fail
        refine (tlen_calls HT.out.que).mono ?_
        rintro e w5 ⟨rfl, rfl⟩
        rw [hrl]
        go_wp2
        go_loopw [9] (fun v wr2 => ∃ j : Nat, j ≤ d.length ∧ v = .int .i64 j ∧ Hid (Grow w4 wr2)) (fun v _ => d.length - (intOf v).toNat)
        case atStart => exact ⟨0, by omega, rfl, Keep.refl _ _⟩
        case round =>
          obtain ⟨j, hj, rfl, HG⟩ := hrel
          by_cases hjl : j < d.length
          · have hjl' : (j : Int) < d.length := by omega
            have hwj : IntKind.i64.wrap ((j : Int) + 1) = (j : Int) + 1 := IntWalk.i64_in _ (by omega)
            have HG2 : Hid (Grow w4 wr.drew) := HG.out.drew
            obtain ⟨K, hK, hdj⟩ := mem_sl.1 ((Hd.out.mem d[j]).1 (List.getElem_mem hjl)).1
            have htn := ((Hd.out.mem d[j]).1 (List.getElem_mem hjl)).2
            rw [hdj] at htn
            have htn' : ¬ (now < tm l K) := by simp only at htn; omega
            have K0 : ¬ ((K : Int) < 0) := by omega
            have K1 : (K : Int) < l.length := by omega
            have K2 : ¬ ((l.length : Int) ≤ K) := by omega
            obtain ⟨a5, rfl, q5⟩ := SliceR.at_ (Ho4.out.grow HG.out) j (by simpa [keysV] using hjl)
            rw [show (keysV d)[j]'(by simpa [keysV] using hjl) = .int .i64 (K : Int) from by simp [keysV, hdj]] at q5
            obtain ⟨a1, rfl, q0⟩ := SliceR.at_ (HL.out.grow (HT.out.grow.grow HG.out)) K (by simpa using hK)
            rw [show (l.map (Value.int .i16))[K]'(by simpa using hK) = .int .i16 (tm l K) from by simp [tm, hK]] at q0
            have q1 : wr.drew.cell? (a1.add K) = some (.int .i16 (tm l K)) := by simpa using q0
            clear htn
            rcases Nat.eq_zero_or_pos j with h0 | h0
            · subst h0
              clear hdj
              have q5' : wr.cell? a5 = some (.int .i64 (K : Int)) := by simpa [Addr.add] using q5
              go_wp2
              refine region_ord (0 :: 1 :: 2 :: 3 :: 4 :: 5 :: 6 :: 7 :: 8 :: 9 :: 10 :: 11 :: 12 :: 13 :: 14 :: 15 :: 16 :: 17 :: 18 :: 19 :: 20 :: 21 :: 22 :: 23 :: 24 :: 25 :: 26 :: 27 :: 28 :: 29 :: 30 :: 31 :: 32 :: 33 :: 34 :: 35 :: 36 :: 37 :: 38 :: 39 :: 40 :: []) [] [8, 10, 14, 22, 24, 28, 35] [] rfl (by kernel_rfl) ?_
              iterate 3
                refine ord_pure rfl rfl rfl rfl rfl (fun _ _ _ _ h => h) ?_ ?_ ?_ ?_ ?_
                rotate_left 2
                · intro w'; go_simp; with_reducible rfl
                · simp only [Act.put, List.setIfInBounds_toArray, List.set_cons_zero, List.set_cons_succ]; rfl
              iterate 37
                refine ord_skip rfl rfl rfl rfl (fun _ _ _ _ h => h) ?_ ?_ ?_
                rotate_left 1
                · simp only [Act.put, List.setIfInBounds_toArray, List.set_cons_zero, List.set_cons_succ]; rfl
              refine ord_pure rfl rfl rfl rfl rfl (fun _ _ _ _ h => h) ?_ ?_ ?_ ?_ ?_
              rotate_left 2
              · intro w'; go_simp; with_reducible rfl
              · simp only [Act.put, List.setIfInBounds_toArray, List.set_cons_zero, List.set_cons_succ]; rfl
              refine ord_nil ?_
              go_wp2
              go_roundw
              case rel => exact ⟨1, by omega, by go_num, HG2⟩
              case measure => simp [intOf]; omega
            · obtain ⟨m, hmj⟩ : ∃ m, j = m + 1 := ⟨j - 1, by omega⟩
              have hm : m < d.length := by omega
              have hm' : (m : Int) < d.length := by omega
              have hwm : IntKind.i64.wrap ((j : Int) - 1) = (m : Int) := by rw [show ((j : Int) - 1) = (m : Int) from by omega]; exact IntWalk.i64_in _ (by omega)
              have hpos : (0 : Int) < (j : Int) := by omega
              obtain ⟨K', hK', hdm⟩ := mem_sl.1 ((Hd.out.mem d[m]).1 (List.getElem_mem hm)).1
              have hle : lekt d[m] d[j] := List.pairwise_iff_getElem.1 Hd.out.sorted m j hm hjl (by omega)
              have hne : d[m].1 ≠ d[j].1 := List.pairwise_iff_getElem.1 Hd.out.nd m j hm hjl (by omega)
              rw [hdm, hdj] at hle hne
              have hle' : tm l K' < tm l K ∨ tm l K' = tm l K ∧ (K' : Int) < K := by unfold lekt at hle; simp only at hle hne; omega
              have hKK : (K' : Int) < l.length := by omega
              obtain ⟨a6, ha6, p5'⟩ := SliceR.at_ (Ho4.out.grow HG.out) m (by simpa [keysV] using hm)
              injection ha6 with ha6
              subst ha6
              rw [show (keysV d)[m]'(by simpa [keysV] using hm) = .int .i64 (K' : Int) from by simp [keysV, hdm]] at p5'
              obtain ⟨a7, ha7, p1'⟩ := SliceR.at_ (HL.out.grow (HT.out.grow.grow HG.out)) K' (by simpa using hK')
              injection ha7 with ha7
              subst ha7
              rw [show (l.map (Value.int .i16))[K']'(by simpa using hK') = .int .i16 (tm l K') from by simp [tm, hK']] at p1'
              have p5 : wr.drew.cell? (a5.add m) = some (.int .i64 (K' : Int)) := by simpa using p5'
              have p1 : wr.drew.cell? (a1.add K') = some (.int .i16 (tm l K')) := by simpa using p1'
              clear hle hne hdm hdj p5' p1' hmj
              rcases hle' with hlt | ⟨heq, hlk⟩
              · have g1 : ¬ (tm l K < tm l K') := by omega
                have g1b : decide (tm l K < tm l K') = false := decide_eq_false g1
                have g2 : (tm l K' == tm l K) = false := beq_eq_false_iff_ne.2 (by omega)
                go_wp2
                refine region_ord (0 :: 1 :: 2 :: 3 :: 4 :: 5 :: 6 :: 7 :: 8 :: 9 :: 10 :: 11 :: 12 :: 13 :: 14 :: 15 :: 16 :: 17 :: 18 :: 19 :: 20 :: 21 :: 22 :: 23 :: 24 :: 25 :: 26 :: 27 :: 28 :: 29 :: 30 :: 31 :: 32 :: 33 :: 34 :: 35 :: 36 :: 37 :: 38 :: 39 :: 40 :: []) [] [8, 10, 14, 22, 24, 28, 35] [] rfl (by kernel_rfl) ?_
                iterate 3
                  refine ord_pure rfl rfl rfl rfl rfl (fun _ _ _ _ h => h) ?_ ?_ ?_ ?_ ?_
                  rotate_left 2
                  · intro w'; go_simp; with_reducible rfl
                  · simp only [Act.put, List.setIfInBounds_toArray, List.set_cons_zero, List.set_cons_succ]; rfl
                iterate 5
                  refine ord_pureG rfl rfl rfl rfl rfl (fun _ _ _ _ h => h) ?_ ?_ ?_ ?_ ?_
                  rotate_left 2
                  · intro w'; go_simp; with_reducible rfl
                  · simp only [Act.put, List.setIfInBounds_toArray, List.set_cons_zero, List.set_cons_succ]; rfl
                refine ord_readG rfl rfl rfl rfl rfl (fun _ _ _ _ h => h) ?_ ?_ ?_ ?_ ?_
                rotate_left 2
                · intro w' hg; have q := hg.cell p5 (fun h => h); go_simp; with_reducible rfl
                · simp only [Act.put, List.setIfInBounds_toArray, List.set_cons_zero, List.set_cons_succ]; rfl
                refine ord_pureG rfl rfl rfl rfl rfl (fun _ _ _ _ h => h) ?_ ?_ ?_ ?_ ?_
                rotate_left 2
                · intro w'; go_simp; with_reducible rfl
                · simp only [Act.put, List.setIfInBounds_toArray, List.set_cons_zero, List.set_cons_succ]; rfl
                refine ord_readG rfl rfl rfl rfl rfl (fun _ _ _ _ h => h) ?_ ?_ ?_ ?_ ?_
                rotate_left 2
                · intro w' hg; have q := hg.cell p1 (fun h => h); go_simp; with_reducible rfl
                · simp only [Act.put, List.setIfInBounds_toArray, List.set_cons_zero, List.set_cons_succ]; rfl
                iterate 3
                  refine ord_pureG rfl rfl rfl rfl rfl (fun _ _ _ _ h => h) ?_ ?_ ?_ ?_ ?_
                  rotate_left 2
                  · intro w'; go_simp; with_reducible rfl
                  · simp only [Act.put, List.setIfInBounds_toArray, List.set_cons_zero, List.set_cons_succ]; rfl
                refine ord_readG rfl rfl rfl rfl rfl (fun _ _ _ _ h => h) ?_ ?_ ?_ ?_ ?_
                rotate_left 2
                · intro w' hg; have q := hg.cell q1 (fun h => h); go_simp; with_reducible rfl
                · simp only [Act.put, List.setIfInBounds_toArray, List.set_cons_zero, List.set_cons_succ]; rfl
                iterate 2
                  refine ord_pureG rfl rfl rfl rfl rfl (fun _ _ _ _ h => h) ?_ ?_ ?_ ?_ ?_
                  rotate_left 2
                  · intro w'; go_simp; with_reducible rfl
                  · simp only [Act.put, List.setIfInBounds_toArray, List.set_cons_zero, List.set_cons_succ]; rfl
                iterate 5
                  refine ord_pureG rfl rfl rfl rfl rfl (fun _ _ _ _ h => h) ?_ ?_ ?_ ?_ ?_
                  rotate_left 2
                  · intro w'; go_simp; with_reducible rfl
                  · simp only [Act.put, List.setIfInBounds_toArray, List.set_cons_zero, List.set_cons_succ]; rfl
                refine ord_readG rfl rfl rfl rfl rfl (fun _ _ _ _ h => h) ?_ ?_ ?_ ?_ ?_
                rotate_left 2
                · intro w' hg; have q := hg.cell p5 (fun h => h); go_simp; with_reducible rfl
                · simp only [Act.put, List.setIfInBounds_toArray, List.set_cons_zero, List.set_cons_succ]; rfl
                refine ord_pureG rfl rfl rfl rfl rfl (fun _ _ _ _ h => h) ?_ ?_ ?_ ?_ ?_
                rotate_left 2
                · intro w'; go_simp; with_reducible rfl
                · simp only [Act.put, List.setIfInBounds_toArray, List.set_cons_zero, List.set_cons_succ]; rfl
                refine ord_readG rfl rfl rfl rfl rfl (fun _ _ _ _ h => h) ?_ ?_ ?_ ?_ ?_
                rotate_left 2
                · intro w' hg; have q := hg.cell p1 (fun h => h); go_simp; with_reducible rfl
                · simp only [Act.put, List.setIfInBounds_toArray, List.set_cons_zero, List.set_cons_succ]; rfl
                iterate 3
                  refine ord_pureG rfl rfl rfl rfl rfl (fun _ _ _ _ h => h) ?_ ?_ ?_ ?_ ?_
                  rotate_left 2
                  · intro w'; go_simp; with_reducible rfl
                  · simp only [Act.put, List.setIfInBounds_toArray, List.set_cons_zero, List.set_cons_succ]; rfl
                refine ord_readG rfl rfl rfl rfl rfl (fun _ _ _ _ h => h) ?_ ?_ ?_ ?_ ?_
                rotate_left 2
                · intro w' hg; have q := hg.cell q1 (fun h => h); go_simp; with_reducible rfl
                · simp only [Act.put, List.setIfInBounds_toArray, List.set_cons_zero, List.set_cons_succ]; rfl
                iterate 2
                  refine ord_pureG rfl rfl rfl rfl rfl (fun _ _ _ _ h => h) ?_ ?_ ?_ ?_ ?_
                  rotate_left 2
                  · intro w'; go_simp; with_reducible rfl
                  · simp only [Act.put, List.setIfInBounds_toArray, List.set_cons_zero, List.set_cons_succ]; rfl
                iterate 7
                  refine ord_skip rfl rfl rfl rfl (fun _ _ _ _ h => h) ?_ ?_ ?_
                  rotate_left 1
                  · simp only [Act.put, List.setIfInBounds_toArray, List.set_cons_zero, List.set_cons_succ]; rfl
                iterate 2
                  refine ord_pureG rfl rfl rfl rfl rfl (fun _ _ _ _ h => h) ?_ ?_ ?_ ?_ ?_
                  rotate_left 2
                  · intro w'; go_simp; with_reducible rfl
                  · simp only [Act.put, List.setIfInBounds_toArray, List.set_cons_zero, List.set_cons_succ]; rfl
                refine ord_pure rfl rfl rfl rfl rfl (fun _ _ _ _ h => h) ?_ ?_ ?_ ?_ ?_
                rotate_left 2
                · intro w'; go_simp; with_reducible rfl
                · simp only [Act.put, List.setIfInBounds_toArray, List.set_cons_zero, List.set_cons_succ]; rfl
                refine ord_nil ?_
                go_wp2
                go_roundw
                case rel => exact ⟨j + 1, by omega, by go_num, HG2⟩
                case measure => simp [intOf]; omega
              · have g1 : ¬ (tm l K < tm l K') := by omega
                have g1b : decide (tm l K < tm l K') = false := decide_eq_false g1
                have g2 : (tm l K' == tm l K) = true := beq_iff_eq.2 heq
                have g3n : K' < K := by omega
                have g3b : decide (K ≤ K') = false := decide_eq_false (by omega)
                have g3c : decide ((K : Int) ≤ (K' : Int)) = false := decide_eq_false (by omega)
                have g3 : ¬ ((K : Int) ≤ K') := by omega
                clear heq
                go_wp2
                refine region_ord (0 :: 1 :: 2 :: 3 :: 4 :: 5 :: 6 :: 7 :: 8 :: 9 :: 10 :: 11 :: 12 :: 13 :: 14 :: 15 :: 16 :: 17 :: 18 :: 19 :: 20 :: 21 :: 22 :: 23 :: 24 :: 25 :: 26 :: 27 :: 28 :: 29 :: 30 :: 31 :: 32 :: 33 :: 34 :: 35 :: 36 :: 37 :: 38 :: 39 :: 40 :: []) [] [8, 10, 14, 22, 24, 28, 35] [] rfl (by kernel_rfl) ?_
                iterate 3
                  refine ord_pure rfl rfl rfl rfl rfl (fun _ _ _ _ h => h) ?_ ?_ ?_ ?_ ?_
                  rotate_left 2
                  · intro w'; go_simp; with_reducible rfl
                  · simp only [Act.put, List.setIfInBounds_toArray, List.set_cons_zero, List.set_cons_succ]; rfl
                iterate 5
                  refine ord_pureG rfl rfl rfl rfl rfl (fun _ _ _ _ h => h) ?_ ?_ ?_ ?_ ?_
                  rotate_left 2
                  · intro w'; go_simp; with_reducible rfl
                  · simp only [Act.put, List.setIfInBounds_toArray, List.set_cons_zero, List.set_cons_succ]; rfl
                refine ord_readG rfl rfl rfl rfl rfl (fun _ _ _ _ h => h) ?_ ?_ ?_ ?_ ?_
                rotate_left 2
                · intro w' hg; have q := hg.cell p5 (fun h => h); go_simp; with_reducible rfl
                · simp only [Act.put, List.setIfInBounds_toArray, List.set_cons_zero, List.set_cons_succ]; rfl
                refine ord_pureG rfl rfl rfl rfl rfl (fun _ _ _ _ h => h) ?_ ?_ ?_ ?_ ?_
                rotate_left 2
                · intro w'; go_simp; with_reducible rfl
                · simp only [Act.put, List.setIfInBounds_toArray, List.set_cons_zero, List.set_cons_succ]; rfl
                refine ord_readG rfl rfl rfl rfl rfl (fun _ _ _ _ h => h) ?_ ?_ ?_ ?_ ?_
                rotate_left 2
                · intro w' hg; have q := hg.cell p1 (fun h => h); go_simp; with_reducible rfl
                · simp only [Act.put, List.setIfInBounds_toArray, List.set_cons_zero, List.set_cons_succ]; rfl
                iterate 3
                  refine ord_pureG rfl rfl rfl rfl rfl (fun _ _ _ _ h => h) ?_ ?_ ?_ ?_ ?_
                  rotate_left 2
                  · intro w'; go_simp; with_reducible rfl
                  · simp only [Act.put, List.setIfInBounds_toArray, List.set_cons_zero, List.set_cons_succ]; rfl
                refine ord_readG rfl rfl rfl rfl rfl (fun _ _ _ _ h => h) ?_ ?_ ?_ ?_ ?_
                rotate_left 2
                · intro w' hg; have q := hg.cell q1 (fun h => h); go_simp; with_reducible rfl
                · simp only [Act.put, List.setIfInBounds_toArray, List.set_cons_zero, List.set_cons_succ]; rfl
                iterate 2
                  refine ord_pureG rfl rfl rfl rfl rfl (fun _ _ _ _ h => h) ?_ ?_ ?_ ?_ ?_
                  rotate_left 2
                  · intro w'; go_simp; with_reducible rfl
                  · simp only [Act.put, List.setIfInBounds_toArray, List.set_cons_zero, List.set_cons_succ]; rfl
                iterate 5
                  refine ord_pureG rfl rfl rfl rfl rfl (fun _ _ _ _ h => h) ?_ ?_ ?_ ?_ ?_
                  rotate_left 2
                  · intro w'; go_simp; with_reducible rfl
                  · simp only [Act.put, List.setIfInBounds_toArray, List.set_cons_zero, List.set_cons_succ]; rfl
                refine ord_readG rfl rfl rfl rfl rfl (fun _ _ _ _ h => h) ?_ ?_ ?_ ?_ ?_
                rotate_left 2
                · intro w' hg; have q := hg.cell p5 (fun h => h); go_simp; with_reducible rfl
                · simp only [Act.put, List.setIfInBounds_toArray, List.set_cons_zero, List.set_cons_succ]; rfl
                refine ord_pureG rfl rfl rfl rfl rfl (fun _ _ _ _ h => h) ?_ ?_ ?_ ?_ ?_
                rotate_left 2
                · intro w'; go_simp; with_reducible rfl
                · simp only [Act.put, List.setIfInBounds_toArray, List.set_cons_zero, List.set_cons_succ]; rfl
                refine ord_readG rfl rfl rfl rfl rfl (fun _ _ _ _ h => h) ?_ ?_ ?_ ?_ ?_
                rotate_left 2
                · intro w' hg; have q := hg.cell p1 (fun h => h); go_simp; with_reducible rfl
                · simp only [Act.put, List.setIfInBounds_toArray, List.set_cons_zero, List.set_cons_succ]; rfl
                iterate 3
                  refine ord_pureG rfl rfl rfl rfl rfl (fun _ _ _ _ h => h) ?_ ?_ ?_ ?_ ?_
                  rotate_left 2
                  · intro w'; go_simp; with_reducible rfl
                  · simp only [Act.put, List.setIfInBounds_toArray, List.set_cons_zero, List.set_cons_succ]; rfl
                refine ord_readG rfl rfl rfl rfl rfl (fun _ _ _ _ h => h) ?_ ?_ ?_ ?_ ?_
                rotate_left 2
                · intro w' hg; have q := hg.cell q1 (fun h => h); go_simp; with_reducible rfl
                · simp only [Act.put, List.setIfInBounds_toArray, List.set_cons_zero, List.set_cons_succ]; rfl
                iterate 2
                  refine ord_pureG rfl rfl rfl rfl rfl (fun _ _ _ _ h => h) ?_ ?_ ?_ ?_ ?_
                  rotate_left 2
                  · intro w'; go_simp; with_reducible rfl
                  · simp only [Act.put, List.setIfInBounds_toArray, List.set_cons_zero, List.set_cons_succ]; rfl
                iterate 4
                  refine ord_pureG rfl rfl rfl rfl rfl (fun _ _ _ _ h => h) ?_ ?_ ?_ ?_ ?_
                  rotate_left 2
                  · intro w'; go_simp; with_reducible rfl
                  · simp only [Act.put, List.setIfInBounds_toArray, List.set_cons_zero, List.set_cons_succ]; rfl
                refine ord_readG rfl rfl rfl rfl rfl (fun _ _ _ _ h => h) ?_ ?_ ?_ ?_ ?_
                rotate_left 2
                · intro w' hg; have q := hg.cell p5 (fun h => h); go_simp; with_reducible rfl
                · simp only [Act.put, List.setIfInBounds_toArray, List.set_cons_zero, List.set_cons_succ]; rfl
                iterate 2
                  refine ord_pureG rfl rfl rfl rfl rfl (fun _ _ _ _ h => h) ?_ ?_ ?_ ?_ ?_
                  rotate_left 2
                  · intro w'; go_simp; with_reducible rfl
                  · simp only [Act.put, List.setIfInBounds_toArray, List.set_cons_zero, List.set_cons_succ]; rfl
                iterate 2
                  refine ord_pureG rfl rfl rfl rfl rfl (fun _ _ _ _ h => h) ?_ ?_ ?_ ?_ ?_
                  rotate_left 2
                  · intro w'; go_simp; with_reducible rfl
                  · simp only [Act.put, List.setIfInBounds_toArray, List.set_cons_zero, List.set_cons_succ]; rfl
                refine ord_pure rfl rfl rfl rfl rfl (fun _ _ _ _ h => h) ?_ ?_ ?_ ?_ ?_
                rotate_left 2
                · intro w'; go_simp; with_reducible rfl
                · simp only [Act.put, List.setIfInBounds_toArray, List.set_cons_zero, List.set_cons_succ]; rfl
                refine ord_nil ?_
                go_wp2
                go_roundw
                case rel => exact ⟨j + 1, by omega, by go_num, HG2⟩
                case measure => simp [intOf]; omega
          · obtain rfl : j = d.length := by omega
            clear hjl
            go_wp2_with fail
            refine (tknown_calls (Keep.refl NoB _)).mono ?_
            rintro e w7 ⟨rfl, hg7⟩
            have HT7 : Hid (Grow W w7) := (HT.out.grow.grow HG.out).grow hg7
            clear hg7
            go_wp2
            go_ret
            exact ⟨rfl, HT7.out⟩
end Go.Proofs.Ytimpnbkincgbmaa

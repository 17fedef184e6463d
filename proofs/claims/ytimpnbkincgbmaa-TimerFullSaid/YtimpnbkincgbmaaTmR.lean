import Derived.Test.YtimpnbkincgbmaaTmQ
set_option linter.unusedSimpArgs false
set_option linter.unusedVariables false
namespace Go.Proofs.Ytimpnbkincgbmaa
open Go.RowKit

/-- What the loop of TimerFull has set. -/
def fl (i : Nat) : List KT := (List.range (min i 1000)).map (fun (j : Nat) => ((j : Int), (j : Int) % 7))
theorem fl_length (i : Nat) : (fl i).length = min i 1000 := by simp [fl]
theorem mem_fl {i : Nat} {x : KT} : x ∈ fl i ↔ ∃ j : Nat, j < min i 1000 ∧ x = ((j : Int), (j : Int) % 7) := by
  simp only [fl, List.mem_map, List.mem_range]
  constructor
  · rintro ⟨j, hj, rfl⟩; exact ⟨j, hj, rfl⟩
  · rintro ⟨j, hj, rfl⟩; exact ⟨j, hj, rfl⟩
theorem hasL_fl (i : Nat) (k : Nat) : hasL (fl i) k = decide (k < min i 1000) := by
  by_cases h : k < min i 1000
  · rw [decide_eq_true h]
    exact hasL_iff.2 ⟨_, mem_fl.2 ⟨k, h, rfl⟩⟩
  · rw [decide_eq_false h]
    refine hasL_no (fun x hx => ?_)
    obtain ⟨j, hj, rfl⟩ := mem_fl.1 hx
    show (j : Int) ≠ k
    omega
theorem okSet_fl (i k : Nat) : okSet (fl i) k = (decide (k < min i 1000) || decide (i < 1000)) := by
  unfold okSet
  rw [hasL_fl, fl_length]
  congr 1
  rw [decide_eq_decide]
  omega
theorem rSet_fl (i : Nat) : rSet (fl i) i ((i : Int) % 7) = fl (i + 1) := by
  unfold rSet
  rw [okSet_fl]
  by_cases h : i < 1000
  · rw [if_pos (by simp [h])]
    have hd : delL (fl i) i = fl i := delL_absent (fun x hx => by
      obtain ⟨j, hj, rfl⟩ := mem_fl.1 hx
      show (j : Int) ≠ i
      omega)
    unfold setL
    rw [hd]
    unfold fl
    rw [show min (i + 1) 1000 = min i 1000 + 1 from by omega, List.range_succ, List.map_append]
    simp [show min i 1000 = i from by omega]
  · rw [if_neg (by simp; omega)]
    unfold fl
    rw [show min (i + 1) 1000 = min i 1000 from by omega]
theorem fl_nd (i : Nat) : ND (fl i) := by
  unfold ND fl
  rw [List.pairwise_map]
  exact List.Pairwise.imp (fun {a b} (h : a < b) => by show ((a : Int), (a : Int) % 7).1 ≠ ((b : Int), (b : Int) % 7).1; simp; omega) List.pairwise_lt_range
theorem hasL_del (l : List KT) (k : Int) : hasL (delL l k) k = false := hasL_no (fun x hx => (mem_delL.1 hx).2)
theorem rSet_has {l : List KT} {k t : Int} (h : okSet l k = true) : hasL (rSet l k t) k = true ∧ (ND l → atL (rSet l k t) k = t) := by
  have e : rSet l k t = setL l k t := by simp [rSet, h]
  rw [e]
  exact ⟨hasL_iff.2 ⟨t, mem_setL.2 (.inr rfl)⟩, fun hn => atL_yes (hn.set k t) (mem_setL.2 (.inr rfl))⟩
theorem rSet_not {l : List KT} {k t : Int} (h : okSet l k = false) : rSet l k t = l ∧ hasL l k = false := by
  refine ⟨by simp [rSet, h], ?_⟩
  unfold okSet at h
  simp at h
  exact h.1

set_option maxRecDepth 100000 in
set_option maxHeartbeats 1000000 in
theorem tfull_calls (n a k : Int) (W : World) (hn0 : 0 ≤ n) (hn1 : n ≤ 65535) (hk0 : 0 ≤ k) (hk1 : k ≤ 65535) :
    Calls Try.prog 12 #[.int .u16 n, .int .i64 a, .int .u16 k] W fun e w' => e = .returned (.bool true) ∧ Grow W w' := by
  obtain ⟨m, hm⟩ : ∃ m : Nat, n % 1100 = (m : Int) := ⟨(n % 1100).toNat, by omega⟩
  have hm1 : m < 1100 := by omega
  obtain ⟨K, rfl⟩ : ∃ K : Nat, k = (K : Int) := ⟨k.toNat, by omega⟩
  go_enter Try.func12, Try.ntmps12
  go_wp2_with fail
  refine (tst_new (Keep.refl NoB W)).mono ?_
  rintro e w1 ⟨q, F, rfl, h1, -, -⟩
  have HS : Hid (TSt W q (fl 0) F w1) := h1
  have HM := Lib.hid hm
  clear h1 hm
  go_wp2
  rw [HM.out]
  go_loopw [9] (fun v wr => ∃ i : Nat, i ≤ m ∧ v = .int .i64 i ∧ ∃ F, Hid (TSt W q (fl i) F wr)) (fun v _ => m - (intOf v).toNat)
  case atStart => exact ⟨0, by omega, rfl, F, HS⟩
  case round =>
    clear HS F
    obtain ⟨i, hi, rfl, F, HS⟩ := hrel
    by_cases hlt : i < m
    · have hlt' : (i : Int) < m := by omega
      have hw : IntKind.i64.wrap ((i : Int) + 1) = (i : Int) + 1 := IntWalk.i64_in _ (by omega)
      have hbb : okSet (fl i) i = decide ((i : Int) < 1000) := by
        rw [okSet_fl]
        by_cases h : i < 1000
        · have h2 : (i : Int) < 1000 := by omega
          simp [h, h2]
        · have h2 : ¬ ((i : Int) < 1000) := by omega
          simp [h, h2]; omega
      have hi0 : (0 : Int) ≤ i := by omega
      go_wp2_with fail
      refine (tst_set HS.out i (okI_of (by omega) (by omega)) ((i : Int) % 7)).mono ?_
      rintro e w2 ⟨rfl, F2, h2, -, -⟩
      rw [rSet_fl] at h2
      rw [hbb]
      have H2 := Lib.hid h2
      clear h2 HS
      by_cases hf : (i : Int) < 1000
      · go_wp2
        go_roundw
        case rel => exact ⟨i + 1, by omega, by go_num, F2, H2⟩
        case measure => simp [intOf]; omega
      · go_wp2
        go_roundw
        case rel => exact ⟨i + 1, by omega, by go_num, F2, H2⟩
        case measure => simp [intOf]; omega
    · obtain rfl : i = m := by omega
      have hk' := okI_of (k := (K : Int)) (by omega) (by omega)
      have hbe := okSet_fl i K
      cases hb : okSet (fl i) K with
      | true =>
        rw [hb] at hbe
        have hor : ((K : Int) < i ∧ (i : Int) ≤ 1000) ∨ ((i : Int) < 1000 ∧ ¬ ((K : Int) < i)) ∨ (¬ ((i : Int) ≤ 1000) ∧ (K : Int) < 1000) := by
          simp at hbe
          omega
        have Hh : Hid (hasL (rSet (fl i) K a) K = true) := (rSet_has hb).1
        have Ha : Hid (atL (rSet (fl i) K a) K = a) := (rSet_has hb).2 (fl_nd i)
        clear hbe hlt hi hm1
        rcases hor with ⟨a1, a2⟩ | ⟨a1, a2⟩ | ⟨a1, a2⟩
        all_goals
          go_wp2_with fail
          refine (tst_set HS.out K hk' a).mono ?_
          rintro e w2 ⟨rfl, F2, h2, -, -⟩
          rw [hb]
          have H2 := Lib.hid h2
          clear h2
          go_wp2_with fail
          refine (tat_calls H2.out.que K hk').mono ?_
          rintro e w3 ⟨rfl, rfl⟩
          rw [Hh.out, Ha.out]
          go_wp2_with fail
          refine (tknown_calls (Keep.refl NoB w2)).mono ?_
          rintro e w4 ⟨rfl, hg⟩
          have H4 := Lib.hid (H2.out.grow' hg)
          clear hg H2
          go_wp2_with fail
          refine (tst_drop H4.out K hk').mono ?_
          rintro e w5 ⟨rfl, h5, -⟩
          rw [Hh.out]
          have H5 := Lib.hid h5
          clear h5 H4
          go_wp2_with fail
          refine (tst_drop H5.out K hk').mono ?_
          rintro e w6 ⟨rfl, h6, -⟩
          rw [hasL_del]
          have H6 := Lib.hid h6
          clear h6 H5
          go_wp2
          go_ret
          exact ⟨rfl, H6.out.grow⟩
      | false =>
        rw [hb] at hbe
        have hor : ((i : Int) ≤ 1000 ∧ ¬ ((i : Int) < 1000) ∧ ¬ ((K : Int) < i)) ∨ (¬ ((i : Int) ≤ 1000) ∧ ¬ ((K : Int) < 1000) ∧ ¬ ((i : Int) < 1000)) := by
          simp at hbe
          omega
        have e := rSet_not (t := a) hb
        have Hh : Hid (hasL (rSet (fl i) K a) K = false) := by rw [e.1]; exact e.2
        have Ha : Hid (atL (rSet (fl i) K a) K = 0) := by
          rw [e.1]
          refine atL_no (fun x hx he => ?_)
          have hx2 : ((K : Int), x.2) ∈ fl i := by rw [← he]; exact hx
          have := hasL_iff.2 ⟨x.2, hx2⟩
          rw [e.2] at this
          cases this
        have hd : decide ((i : Int) < 1000) = false := decide_eq_false (by omega)
        clear hbe hlt hi hm1 e
        rcases hor with ⟨a1, a2, a3⟩ | ⟨a1, a2, a3⟩
        all_goals
          go_wp2_with fail
          refine (tst_set HS.out K hk' a).mono ?_
          rintro e w2 ⟨rfl, F2, h2, -, -⟩
          rw [hb]
          have H2 := Lib.hid h2
          clear h2
          go_wp2_with fail
          refine (tat_calls H2.out.que K hk').mono ?_
          rintro e w3 ⟨rfl, rfl⟩
          rw [Hh.out, Ha.out]
          go_wp2_with fail
          refine (tknown_calls (Keep.refl NoB w2)).mono ?_
          rintro e w4 ⟨rfl, hg⟩
          have H4 := Lib.hid (H2.out.grow' hg)
          clear hg H2
          go_wp2_with fail
          refine (tst_drop H4.out K hk').mono ?_
          rintro e w5 ⟨rfl, h5, -⟩
          rw [Hh.out]
          have H5 := Lib.hid h5
          clear h5 H4
          go_wp2_with fail
          refine (tst_drop H5.out K hk').mono ?_
          rintro e w6 ⟨rfl, h6, -⟩
          rw [hasL_del]
          have H6 := Lib.hid h6
          clear h6 H5
          go_wp2
          go_ret
          exact ⟨by first | rfl | simp [hd], H6.out.grow⟩
end Go.Proofs.Ytimpnbkincgbmaa

import Derived.Test.YtimpnbkincgbmaaTmT
set_option linter.unusedSimpArgs false
set_option linter.unusedVariables false
namespace Go.Proofs.Ytimpnbkincgbmaa
open Go.RowKit

/-- What TimerMoves has set. -/
def mvL (f : Nat → Int) (n k : Nat) (t : Int) : List KT := setL (sl f n) k t
theorem mvL_rest {f : Nat → Int} {n k : Nat} {t : Int} (hf : ∀ i, f i ≤ 255) (ht : 299 < t) : restL (mvL f n k t) 299 = [((k : Int), t)] := by
  unfold restL mvL setL
  rw [List.filter_append]
  have h1 : (delL (sl f n) k).filter (fun x => decide (299 < x.2)) = [] := by
    rw [List.filter_eq_nil_iff]
    intro x hx
    obtain ⟨j, hj, rfl⟩ := mem_sl.1 (mem_delL.1 hx).1
    have := hf j
    simp
    omega
  rw [h1]
  simp [ht]
theorem mvL_len {f : Nat → Int} {n k : Nat} {t : Int} (hk : k < n) : (mvL f n k t).length = n := by
  unfold mvL
  rw [setL_length, delL_length (t := f k) (sl_nd f n) (mem_sl.2 ⟨k, hk, rfl⟩), sl_length]
theorem mvL_set {f : Nat → Int} {n k : Nat} {t : Int} (hk : k < n) (hn : n ≤ 100) : rSet (sl f n) k t = mvL f n k t := by
  have : okSet (sl f n) k = true := by simp [okSet, sl_length]; omega
  simp [rSet, this, mvL]
theorem mvL_due {f : Nat → Int} {n k : Nat} {t : Int} (hf : ∀ i, f i ≤ 255) (ht : 299 < t) (hk : k < n) {d : List KT} (hd : DueOf (mvL f n k t) 299 d) : d.length + 1 = n ∧ ∀ x ∈ d, x.1 ≠ k := by
  refine ⟨?_, fun x hx e => ?_⟩
  · have := hd.len
    rw [mvL_rest hf ht, mvL_len hk] at this
    simpa using this
  · have h1 := (hd.mem x).1 hx
    rcases mem_setL.1 h1.1 with h2 | h2
    · exact h2.2 e
    · rw [h2] at h1
      have := h1.2
      simp at this
      omega
theorem one_due {x : KT} {now : Int} {d : List KT} (hd : DueOf [x] now d) : d.length = if x.2 ≤ now then 1 else 0 := by
  have := hd.len
  unfold restL at this
  by_cases h : x.2 ≤ now
  · rw [if_pos h]
    have e : ¬ (now < x.2) := by omega
    simp [e] at this
    exact this
  · rw [if_neg h]
    have e : now < x.2 := by omega
    simp [e] at this
    simp [this]

set_option maxRecDepth 100000 in
set_option maxHeartbeats 2000000 in
theorem moves_calls (A : Option Addr) (cap : Nat) (l : List Int) (key a b : Int) (W : World) (hl : SliceR 1 (.slice A l.length cap) l.length (u8s l) W) (hwf : ∀ x ∈ l, (Lit.int .u8 x).wf = true) (hk : 0 ≤ key ∧ key ≤ 255) (ha : 0 ≤ a ∧ a ≤ 255) (hb : 0 ≤ b ∧ b ≤ 255) :
    Calls Try.prog 9 #[.slice A l.length cap, .int .u8 key, .int .u8 a, .int .u8 b] W fun e w' => e = .returned (.bool true) ∧ Grow W w' := by
  have HL := Lib.hid hl
  have HW := Lib.hid hwf
  clear hl hwf
  by_cases hbig : 60 < (l.length : Int)
  · go_enter Try.func9, Try.ntmps9
    go_wp2_with fail
    refine (tknown_calls (Keep.refl NoB W)).mono ?_
    rintro e w1 ⟨rfl, h1⟩
    go_wp2
    go_ret
    exact ⟨rfl, h1⟩
  by_cases hz : l.length = 0
  · have hz' : ((l.length : Int) == 0) = true := beq_iff_eq.2 (by omega)
    clear HL HW hz
    go_enter Try.func9, Try.ntmps9
    go_wp2_with fail
    refine (tknown_calls (Keep.refl NoB W)).mono ?_
    rintro e w1 ⟨rfl, h1⟩
    go_wp2
    go_ret
    exact ⟨rfl, h1⟩
  · have hz' : ((l.length : Int) == 0) = false := beq_eq_false_iff_ne.2 (by omega)
    go_enter Try.func9, Try.ntmps9
    go_wp2_with fail
    refine (tst_new (Keep.refl NoB W)).mono ?_
    rintro e w1 ⟨q, F, rfl, h1, -, -⟩
    have HS : Hid (TSt W q (sl (tm l) 0) F w1) := h1
    clear h1
    go_wp2
    go_loopw [10] (fun v wr => ∃ i : Nat, i ≤ l.length ∧ v = .int .i64 i ∧ ∃ F, Hid (TSt W q (sl (tm l) i) F wr)) (fun v _ => l.length - (intOf v).toNat)
    case atStart => exact ⟨0, by omega, rfl, F, HS⟩
    case round =>
      clear HS F
      obtain ⟨i, hi, rfl, F, HS⟩ := hrel
      by_cases hlt : i < l.length
      · have hlt' : (i : Int) < l.length := by omega
        have hw : IntKind.i64.wrap ((i : Int) + 1) = (i : Int) + 1 := IntWalk.i64_in _ (by omega)
        have hok := okI_of (k := (i : Int)) (by omega) (by omega)
        obtain ⟨a1, rfl, q1⟩ := SliceR.at_ (HL.out.grow HS.out.grow) i (by simpa using hlt)
        have e1 : (u8s l)[i]'(by simpa using hlt) = .int .u8 (tm l i) := by simp [tm, hlt]
        rw [e1] at q1
        obtain ⟨t0, t1⟩ := tm_ok HW.out i
        go_wp2_with fail
        refine (tst_set HS.out i hok (tm l i)).mono ?_
        rintro e w3 ⟨rfl, F2, h3, -, -⟩
        rw [rSet_sl (tm l) i (by omega)] at h3
        have HS3 := Lib.hid h3
        clear h3 HS
        go_wp2
        go_roundw
        case rel => exact ⟨i + 1, by omega, by go_num, F2, HS3⟩
        case measure => simp [intOf]; omega
      · obtain rfl : i = l.length := by omega
        clear hlt
        obtain ⟨k, hk2, hkl⟩ : ∃ k : Nat, key % (l.length : Int) = (k : Int) ∧ k < l.length := by
          have h1 := Int.emod_nonneg key (show (l.length : Int) ≠ 0 by omega)
          have h2 := Int.emod_lt_of_pos key (show (0 : Int) < l.length by omega)
          exact ⟨(key % (l.length : Int)).toNat, by omega, by omega⟩
        have hok := okI_of (k := (k : Int)) (by omega) (by omega)
        have hf : ∀ i, tm l i ≤ 255 := fun i => (tm_ok HW.out i).2
        have hw300 : IntKind.i64.wrap (300 + a) = 300 + a := IntWalk.i64_in _ (by omega)
        have hw300b : IntKind.i64.wrap (300 + b) = 300 + b := IntWalk.i64_in _ (by omega)
        have hwn : IntKind.i64.wrap ((l.length : Int) - 1) = (l.length : Int) - 1 := IntWalk.i64_in _ (by omega)
        go_wp2_with fail
        refine (tst_set HS.out k hok (300 + a)).mono ?_
        rintro e w3 ⟨rfl, F3, h3, -, -⟩
        rw [mvL_set hkl (by omega)] at h3
        rw [hk2]
        have HS3 := Lib.hid h3
        clear h3 HS
        go_wp2_with fail
        refine (tst_due HS3.out 299).mono ?_
        rintro e w4 ⟨d, A4, c4, rfl, hd, h4, hK4, ho4⟩
        rw [mvL_rest hf (by omega)] at h4
        obtain ⟨hdl, hdk⟩ := mvL_due hf (by omega) hkl hd
        have HS4 := Lib.hid h4
        have Ho4 := Lib.hid (SliceR.of_own ho4)
        have Hdk := Lib.hid hdk
        have hd0 : d.length ≤ 100 := by omega
        clear h4 hK4 ho4 hd hdk HS3
        go_wp2
        go_loopw [13] (fun v wr2 => wr2 = w4 ∧ ∃ j : Nat, j ≤ d.length ∧ v = .int .i64 j) (fun v _ => d.length - (intOf v).toNat)
        case atStart => exact ⟨rfl, 0, by omega, rfl⟩
        case round =>
          obtain ⟨rfl, j, hj, rfl⟩ := hrel
          by_cases hjl : j < d.length
          · have hjl' : (j : Int) < d.length := by omega
            have hwj : IntKind.i64.wrap ((j : Int) + 1) = (j : Int) + 1 := IntWalk.i64_in _ (by omega)
            obtain ⟨a5, rfl, q5⟩ := SliceR.at_ Ho4.out j (by simpa [keysV] using hjl)
            rw [show (keysV d)[j]'(by simpa [keysV] using hjl) = .int .i64 d[j].1 from by simp [keysV]] at q5
            have hne : (d[j].1 == (k : Int)) = false := beq_eq_false_iff_ne.2 (Hdk.out _ (List.getElem_mem hjl))
            go_wp2
            go_roundw
            case rel => exact ⟨trivial, j + 1, by omega, by go_num⟩
            case measure => simp [intOf]; omega
          · obtain rfl : j = d.length := by omega
            clear hjl
            go_wp2_with fail
            refine (tnext_yes HS4.out.que (by simp)).mono ?_
            rintro e w5 ⟨x, rfl, hg5, hx, -, -⟩
            obtain rfl : x = ((k : Int), 300 + a) := by simpa using hx
            have HS5 := Lib.hid (HS4.out.grow' hg5)
            clear hg5 hx HS4
            go_wp2_with fail
            refine (tst_due HS5.out (300 + b)).mono ?_
            rintro e w6 ⟨m, A6, c6, rfl, hm, h6, -, -⟩
            have HS6 := Lib.hid h6
            have hml := one_due hm
            clear h6 hm HS5
            have hdd : ((d.length : Int) == (l.length : Int) - 1) = true := beq_iff_eq.2 (by omega)
            by_cases hab : a ≤ b
            · skip
              have e1 : m.length = 1 := by rw [hml, if_pos (by (try simp only); omega)]
              rw [e1]
              clear hml e1
              go_wp2_with fail
              refine (tknown_calls (Keep.refl NoB w6)).mono ?_
              rintro e w7 ⟨rfl, hg7⟩
              have HS7 := Lib.hid (HS6.out.grow' hg7)
              clear hg7 HS6
              go_wp2
              go_ret
              exact ⟨rfl, HS7.out.grow⟩
            · skip
              have e1 : m.length = 0 := by rw [hml, if_neg (by (try simp only); omega)]
              rw [e1]
              clear hml e1
              go_wp2_with fail
              refine (tknown_calls (Keep.refl NoB w6)).mono ?_
              rintro e w7 ⟨rfl, hg7⟩
              have HS7 := Lib.hid (HS6.out.grow' hg7)
              clear hg7 HS6
              go_wp2
              go_ret
              exact ⟨by simp; omega, HS7.out.grow⟩
end Go.Proofs.Ytimpnbkincgbmaa

import Derived.Test.YtimpnbkincgbmaaNetH
import Derived.LoopTactic
set_option linter.unusedSimpArgs false
set_option linter.unusedVariables false
namespace Go.Proofs.Ytimpnbkincgbmaa
open Go.RowKit

/-- What NetFull has pushed. -/
def fulls (k : Nat) : List G := (List.range (min k 1000)).map fun i => (((i % 2 : Nat) : Int), [])
theorem fulls_length (k : Nat) : (fulls k).length = min k 1000 := by simp [fulls]
theorem fulls_succ (k : Nat) (h : k < 1000) : fulls (k + 1) = fulls k ++ [(((k % 2 : Nat) : Int), [])] := by
  unfold fulls
  rw [show min (k + 1) 1000 = k + 1 from by omega, show min k 1000 = k from by omega, List.range_succ]
  simp
theorem fulls_full (k : Nat) (h : ¬ k < 1000) : fulls (k + 1) = fulls k := by
  unfold fulls
  rw [show min (k + 1) 1000 = 1000 from by omega, show min k 1000 = 1000 from by omega]
theorem nil_bytes (w : World) : SliceR 1 (.slice none 0 0) ([] : List Int).length (u8s []) w := ⟨none, 0, rfl, Nat.le_refl _, rfl, fun _ => rfl, fun j u hu => by simp at hu⟩

theorem twice_fulls (g k : Nat) (F : Nat → Prop) (w : World) (hN : Net g (fulls k) F w) (hk : 0 < k) :
    Calls Try.prog 24 #[.pointer (some ⟨g, 0, none⟩), .int .i64 0] w fun e w' => e = .returned (.bool (decide ((k : Int) < 1000))) ∧ ∃ l F', Net g l F' w' ∧ Keep F w w' := by
  by_cases hf : k < 1000
  · rw [show decide ((k : Int) < 1000) = true from decide_eq_true (by omega)]
    have h0 : 0 < (fulls k).length := by rw [fulls_length]; omega
    refine (twice_yes g _ F 0 w hN h0 (by rw [fulls_length]; omega) (by simp [fulls]) (by simp [fulls])).mono ?_
    rintro e w' ⟨rfl, F', h1, h2, _⟩
    exact ⟨rfl, _, F', h1, h2⟩
  · rw [show decide ((k : Int) < 1000) = false from decide_eq_false (by omega)]
    have h0 : 0 < (fulls k).length := by rw [fulls_length]; omega
    refine (twice_full g _ F 0 w hN h0 (by rw [fulls_length]; omega)).mono ?_
    rintro e w' ⟨rfl, h⟩
    exact ⟨rfl, _, F, hN.keep h (fun _ _ h => h), h.mono (fun _ h => h.elim)⟩

set_option maxRecDepth 100000 in
set_option maxHeartbeats 1000000 in
theorem full_calls (m i : Int) (W : World) (hm0 : 0 ≤ m) (hm1 : m ≤ 65535) :
    Calls Try.prog 6 #[.int .u16 m, .int .i64 i] W fun e w' => e = .returned (.bool true) ∧ Grow W w' := by
  obtain ⟨K, hK, hK2⟩ : ∃ K : Nat, m % 1100 = (K : Int) ∧ K < 1100 := ⟨(m % 1100).toNat, by omega, by omega⟩
  go_enter Try.func6, Try.ntmps6
  go_wp2_with fail
  refine (net_new W).mono ?_
  rintro e w1 ⟨g, F, rfl, hN, h1, hF⟩
  have HN := Lib.hid hN
  have HK := Lib.hid hK
  clear hN hK
  go_wp2
  rw [HK.out]
  go_loopw [7] (fun v wr => ∃ k : Nat, k ≤ K ∧ v = .int .i64 k ∧ ∃ F, Hid (Net g (fulls k) F wr ∧ (∀ x, F x → W.heap.size ≤ x) ∧ Grow W wr)) (fun v _ => K - (intOf v).toNat)
  case atStart => exact ⟨0, by omega, rfl, F, HN.out, hF, h1⟩
  case round =>
    clear HN hF h1 F
    obtain ⟨k, hk, rfl, F, HNk⟩ := hrel
    obtain ⟨hN, hF, h1⟩ := HNk.out
    have HN := Lib.hid hN
    clear hN
    have hk0 : (0 : Int) ≤ k := by omega
    by_cases hlt : k < K
    · have e1 : (k : Int) % 2 = ((k % 2 : Nat) : Int) := rfl
      have E1 := Lib.hid e1
      clear e1
      by_cases hf : k < 1000
      · go_wp2_with fail
        rw [E1.out]
        refine (push_yes g (fulls k) F wr HN.out _ (by omega) (by omega) _ [] (nil_bytes wr) (by simp) (by rw [fulls_length]; omega)).mono ?_
        rintro e w2 ⟨rfl, F2, hN2, h2, hF2⟩
        rw [← fulls_succ k hf] at hN2
        have HN2 := Lib.hid hN2
        have hF' : Hid (∀ y, F2 y → W.heap.size ≤ y) := fun y hy => (hF2 y hy).elim (hF y) (fun h => Nat.le_trans h1.size h)
        have hG' : Hid (Grow W w2) := (Keep.trans (S := F) (h1.mono (fun _ h => h.elim)) h2 (fun i hi => .inl hi)).new hF
        clear hN2 hF2 h2 h1 HN hF
        have hf' : (k : Int) < 1000 := by omega
        go_wp2
        go_roundw
        case rel => exact ⟨k + 1, by omega, by go_num, F2, HN2.out, hF'.out, hG'.out⟩
        case measure => simp [intOf]; omega
      · go_wp2_with fail
        rw [E1.out]
        refine (push_no g (fulls k) F wr HN.out _ _ _ _ (by rw [fulls_length]; omega)).mono ?_
        rintro e w2 ⟨rfl, rfl⟩
        have hf' : ¬ ((k : Int) < 1000) := by omega
        have hN' : Hid (Net g (fulls (k + 1)) F wr) := by rw [Hid, fulls_full k hf]; exact HN.out
        go_wp2
        go_roundw
        case rel => exact ⟨k + 1, by omega, by go_num, F, hN'.out, hF, h1⟩
        case measure => simp [intOf]; omega
    · obtain rfl : k = K := by omega
      clear HNk hK2
      go_wp2_with fail
      refine (nat_nil i wr).mono ?_
      rintro e w2 ⟨rfl, rfl⟩
      go_wp2_with fail
      refine (take_nil i wr).mono ?_
      rintro e w2 ⟨rfl, rfl⟩
      go_wp2_with fail
      refine (nknown_calls wr).mono ?_
      rintro e w2 ⟨rfl, h2⟩
      have HN2 := Lib.hid (HN.out.keep h2 (fun _ _ h => h))
      have hG2 := Lib.hid (h1.grow h2)
      clear h1 h2 HN
      go_wp2_with fail
      refine (nlen_calls g _ F w2 HN2.out).mono ?_
      rintro e w3 ⟨rfl, rfl⟩
      rw [fulls_length]
      by_cases hz : k = 0
      · have z1 : ¬ ((0 : Int) < k) := by omega
        have hz' : ¬ ((1000 : Int) < k) := by omega
        rw [show ((min k 1000 : Nat) : Int) = (k : Int) from by omega]
        have Hz : Hid ((0 : Int) < 0 ∨ ((fulls k).length : Int) ≤ 0) := by rw [Hid, fulls_length]; omega
        clear hz
        go_wp2_with fail
        refine (twice_no g _ F 0 w2 HN2.out Hz.out).mono ?_
        rintro e w3 ⟨rfl, rfl⟩
        go_wp2_with fail
        refine (push_no g _ F w2 HN2.out 2 none 0 0 (by omega)).mono ?_
        rintro e w3 ⟨rfl, rfl⟩
        go_wp2_with fail
        refine (push_no g _ F w2 HN2.out (-1) none 0 0 (by omega)).mono ?_
        rintro e w3 ⟨rfl, rfl⟩
        go_wp2_with fail
        refine (len_nil w2).mono ?_
        rintro e w3 ⟨rfl, rfl⟩
        go_wp2_with fail
        refine (push_nil w2 0 none 0 0).mono ?_
        rintro e w3 ⟨rfl, rfl⟩
        go_wp2_with fail
        refine (twice_nil 0 w2).mono ?_
        rintro e w3 ⟨rfl, rfl⟩
        go_wp2_with fail
        refine (bend_nil 0 none 0 0 w2).mono ?_
        rintro e w3 ⟨rfl, rfl⟩
        go_wp2
        go_ret
        exact ⟨rfl, hG2.out⟩
      · have z1 : (0 : Int) < k := by omega
        by_cases hb : (1000 : Int) < k
        · rw [show ((min k 1000 : Nat) : Int) = 1000 from by omega]
          go_wp2_with fail
          refine (twice_fulls g k F w2 HN2.out (by omega)).mono ?_
          rintro e w3 ⟨rfl, l3, F3, hN3, h3⟩
          have HN3 := Lib.hid hN3
          have hG3 : Hid (Grow W w3) := (Keep.trans (S := F) (hG2.out.mono (fun _ h => h.elim)) h3 (fun i hi => .inl hi)).new hF
          clear hN3 h3
          go_wp2_with fail
          refine (push_no g _ F3 w3 HN3.out 2 none 0 0 (by omega)).mono ?_
          rintro e w4 ⟨rfl, rfl⟩
          go_wp2_with fail
          refine (push_no g _ F3 w3 HN3.out (-1) none 0 0 (by omega)).mono ?_
          rintro e w4 ⟨rfl, rfl⟩
          go_wp2_with fail
          refine (len_nil w3).mono ?_
          rintro e w4 ⟨rfl, rfl⟩
          go_wp2_with fail
          refine (push_nil w3 0 none 0 0).mono ?_
          rintro e w4 ⟨rfl, rfl⟩
          go_wp2_with fail
          refine (twice_nil 0 w3).mono ?_
          rintro e w4 ⟨rfl, rfl⟩
          go_wp2_with fail
          refine (bend_nil 0 none 0 0 w3).mono ?_
          rintro e w4 ⟨rfl, rfl⟩
          go_wp2
          go_ret
          exact ⟨rfl, hG3.out⟩
        · rw [show ((min k 1000 : Nat) : Int) = (k : Int) from by omega]
          go_wp2_with fail
          refine (twice_fulls g k F w2 HN2.out (by omega)).mono ?_
          rintro e w3 ⟨rfl, l3, F3, hN3, h3⟩
          have HN3 := Lib.hid hN3
          have hG3 : Hid (Grow W w3) := (Keep.trans (S := F) (hG2.out.mono (fun _ h => h.elim)) h3 (fun i hi => .inl hi)).new hF
          clear hN3 h3
          go_wp2_with fail
          refine (push_no g _ F3 w3 HN3.out 2 none 0 0 (by omega)).mono ?_
          rintro e w4 ⟨rfl, rfl⟩
          go_wp2_with fail
          refine (push_no g _ F3 w3 HN3.out (-1) none 0 0 (by omega)).mono ?_
          rintro e w4 ⟨rfl, rfl⟩
          go_wp2_with fail
          refine (len_nil w3).mono ?_
          rintro e w4 ⟨rfl, rfl⟩
          go_wp2_with fail
          refine (push_nil w3 0 none 0 0).mono ?_
          rintro e w4 ⟨rfl, rfl⟩
          go_wp2_with fail
          refine (twice_nil 0 w3).mono ?_
          rintro e w4 ⟨rfl, rfl⟩
          go_wp2_with fail
          refine (bend_nil 0 none 0 0 w3).mono ?_
          rintro e w4 ⟨rfl, rfl⟩
          go_wp2
          go_ret
          exact ⟨rfl, hG3.out⟩
end Go.Proofs.Ytimpnbkincgbmaa

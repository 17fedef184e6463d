import Derived.Test.YtfkcpaahdlkcdaaGreatRSendRetries10
import Derived.Laws.StructEq
set_option linter.unusedSimpArgs false
set_option linter.unusedVariables false
set_option maxRecDepth 100000
set_option maxHeartbeats 16000000
namespace Go.Proofs.YtfkcpaahdlkcdaaGreat
open Go.RowKit
theorem st_0 (a b c d : Int) (w : World) : (Instr.field 48 (.agg #[.int .i64 a, .int .u16 b, .int .i64 c, .int .i64 d]) 0).run Tryz.prog w = .ok (.int .i64 a) w := by kernel_rfl
theorem st_1 (a b c d : Int) (w : World) : (Instr.field 48 (.agg #[.int .i64 a, .int .u16 b, .int .i64 c, .int .i64 d]) 1).run Tryz.prog w = .ok (.int .u16 b) w := by kernel_rfl
theorem OkA.one : OkA [[0]] := ⟨by decide, by decide, by decide⟩
theorem OkA.nil : OkA [] := ⟨by decide, by decide, by decide⟩
theorem SAt.step {g : Nat} {p p' : SP} {Fq Fq' : Nat → Prop} {W w w' : World} (h1 : Grow W w) (h2 : ∀ k, SF g p.rt Fq k → W.heap.size ≤ k) (hK : Keep (SF g p.rt Fq) w w') (hG : Grew Fq Fq' w) (hr : p'.rt = p.rt) : Grow W w' ∧ ∀ k, SF g p'.rt Fq' k → W.heap.size ≤ k := by
 refine ⟨h1.trans hK (fun i hi => .inr (h2 i hi)), fun k hk => ?_⟩
 rcases hk with e | e | e
 ·exact h2 k (.inl e)
 ·rw [hr] at e; exact h2 k (.inr (.inl e))
 ·rcases hG k e with e | e
  ·exact h2 k (.inr (.inr e))
  ·have := h1.size; omega
theorem known_true (w : World) : Calls Tryz.prog 13 #[] w fun e w' => e = .returned (.bool true) ∧ Grow w w' := by
 have hconf : OkC 1 1 3 0 := by constructor <;> omega
 have ha1 := (Keep.refl NoB w).alloc (.cells #[.int .u64 0] 22)
 have ha2 := ha1.alloc (.cells #[.slice (some ⟨w.heap.size, 0, none⟩) 1 1] 111)
 have hh := heap_two w (.cells #[.int .u64 0] 22) (.cells #[.slice (some ⟨w.heap.size, 0, none⟩) 1 1] 111)
 have hR : RowsR .u64 [[0]] (.slice (some ⟨w.heap.size + 1, 0, none⟩) ([[0]] : List (List Int)).length 1) ((w.alloc (.cells #[.int .u64 0] 22)).alloc (.cells #[.slice (some ⟨w.heap.size, 0, none⟩) 1 1] 111)) := by
  refine ⟨_, _, rfl, fun i hi => ?_⟩
  obtain rfl : i = 0 := by simpa using hi
  exact ⟨_, _, _, rfl, cell0 hh.2.1, SliceR.of_block (cs := #[.int .u64 0]) hh.1 (Nat.le_refl _) rfl⟩
 have HC := LH (snew_calls 5 (by omega) (by omega) [[0]] OkA.one k_check hconf _ 1 _ hR)
 have HG := LH ha2
 clear ha1 ha2 hh hR
 go_enter Tryz.func13, Tryz.ntmps13
 go_wp2_with fail
 refine HC.out.mono ?_
 rintro e w1 ⟨g, p, Fq, G, rfl, hS, hg, hsf, _⟩
 replace HG := LH (HG.out.grow hg)
 have HSF : Hid (∀ k, SF g p.rt Fq k → w.heap.size ≤ k) := LH (fun k hk => by have := hsf k hk; simp at this; omega)
 have HS := LH (show SAt g p kD Fq G w1 from hS)
 clear hS hg hsf HC
 go_wp2_with fail
 refine (tick_calls HS.out rfl 0 (by omega) (by omega)).mono ?_
 rintro e w2 ⟨A2, c2, rows, Gr, p2, F2, ds, rfl, hdue, hrt, hS, hrows, hout, hK, hG, hdis⟩
 rw [k_tm] at hdue
 obtain rfl := hdue.one (Int.le_refl 0)
 have hstep := SAt.step HG.out HSF.out hK hG hrt
 replace HG := LH hstep.1
 replace HSF := LH hstep.2
 replace HS := LH (show SAt g p2 kD1 F2 G w2 from hS)
 have hl : rows.length = 1 := by
  have := congrArg List.length hrows
  have h2 := congrArg List.length k_out
  simp only [List.length_map] at this h2
  rw [this, h2]; rfl
 obtain ⟨r2, hA2, q0, q9⟩ := hout.at_ 0 (by omega)
 clear q9
 have hk1 : rows[0].1.kind = 1 := by
  have h2 := k_out
  rw [← hrows] at h2
  match rows, hl, h2 with
  | [x], _, h2 => simpa using h2
 rw [hk1] at q0
 simp only [Nat.mul_zero] at q0
 rw [hA2]
 have HX : Hid (¬ SF g p2.rt F2 r2 ∧ r2 < w2.heap.size) := LH ⟨by rw [hrt]; exact hdis r2 (.inl (by rw [hA2]; rfl)), hout.lt r2 (.inl (by rw [hA2]; rfl))⟩
 have HQ := LH q0
 rw [hl]
 clear hS hdue hrt hrows hout hK hG hdis hstep hl hA2 hk1 q0
 go_wp2_with fail
 refine (tick_calls HS.out k_ph1 0 (by omega) (by omega)).mono ?_
 rintro e w3 ⟨A3, c3, rows3, Gr3, p3, F3, ds, rfl, hdue, hrt, hS, hrows, hout, hK, hG, hdis⟩
 rw [k_tm1] at hdue
 obtain rfl := hdue.none (fun x hx => by have := List.mem_singleton.1 hx; subst this; show (0 : Int) < 1; omega)
 have hstep := SAt.step HG.out HSF.out hK hG hrt
 replace HQ := LH (hK.cell HQ.out HX.out.1)
 replace HG := LH hstep.1
 replace HSF := LH hstep.2
 replace HS := LH (show SAt g p3 kD2 F3 G w3 from hS)
 have hl : rows3.length = 0 := by
  have := congrArg List.length hrows
  have h2 := congrArg List.length k_out2
  simp only [List.length_map] at this h2
  rw [this, h2]; rfl
 rw [hl]
 clear hS hdue hrt hrows hout hK hG hdis hstep hl HX
 go_wp2_with fail
 refine (snew_err 5 [] OkA.nil (by rw [k_check2]; decide) hconf none 0 w3 ⟨none, 0, rfl, fun i hi => by simp at hi⟩).mono ?_
 rintro e w4 ⟨rfl, hg⟩
 rw [k_check2]
 replace HQ := LH (hg.cell HQ.out (fun h => h))
 replace HG := LH (HG.out.grow hg)
 replace HS := LH (HS.out.grow hg)
 have q0 := HQ.out
 clear hg
 go_wp2_with fail
 refine (status_calls HS.out).mono ?_
 rintro e w5 ⟨rfl, hg⟩
 rw [k_ph2]
 have hst := st_0
 replace HG := LH (HG.out.grow hg)
 clear hg
 go_wp2
 go_ret
 exact ⟨rfl, HG.out⟩
theorem ret_i {k : IntKind} {a b : Int} (h : a = b) : Ending.returned (.int k a) = .returned (.int k b) := by rw [h]
theorem sg30_lo {x : Int} (h : x < 536870912) : x = sg30 x := by unfold sg30; rw [if_pos h]
theorem sg30_hi {x : Int} (h : 536870912 ≤ x) : x - 536870912 - 536870912 = sg30 x := by unfold sg30; rw [if_neg (by omega)]; omega
theorem pow_bd {k n : Nat} (h : k ≤ n) : (1 : Int) ≤ 2 ^ k ∧ (2 : Int) ^ k ≤ 2 ^ n := by
 constructor
 ·have := Nat.one_le_two_pow (n := k); exact_mod_cast this
 ·have := Nat.pow_le_pow_right (n := 2) (by omega) h; exact_mod_cast this
theorem div_half (x : Int) (k : Nat) : x / 2 ^ k / 2 = x / 2 ^ (k + 1) := by
 rw [Int.pow_succ, Int.ediv_ediv_of_nonneg]
 exact Int.le_of_lt (Int.pow_pos (by omega))
theorem rbits_calls (x : Int) (f n : Nat) (w : World) (hx : 0 ≤ x) (hx2 : x ≤ 18446744073709551615) (hf : f ≤ 63) (hn : n ≤ 63) :
    Calls Tryz.prog 199 #[.int .u64 x, .int .i64 f, .int .i64 n] w fun e w' => e = .returned (.int .u64 (x / 2 ^ f % 2 ^ n)) ∧ w = w' := by
 go_enter Tryz.func199, Tryz.ntmps199
 go_wp2
 go_loop [0, 7] (fun a i => ∃ k : Nat, k ≤ f ∧ i = .int .i64 k ∧ a = .int .u64 (x / 2 ^ k)) (fun _ i => f - (intOf i).toNat)
 case atStart => exact ⟨0, by omega, rfl, by simp⟩
 case round =>
  obtain ⟨k, hk, rfl, rfl⟩ := hrel
  have hd := div_half x k
  have h0 : 0 ≤ x / 2 ^ k := Int.ediv_nonneg hx (Int.le_of_lt (Int.pow_pos (by omega)))
  have h1 : x / 2 ^ k ≤ 18446744073709551615 := Int.le_trans (Int.ediv_le_self _ hx) hx2
  obtain ⟨y, hy⟩ : ∃ y, x / 2 ^ k = y := ⟨_, rfl⟩
  rw [hy] at hd h0 h1 ⊢
  have HD := LH hd
  have HY := LH hy
  clear hd hy
  by_cases hlt : k < f
  ·have hlt' : (k : Int) < f := by omega
   have hw : IntKind.i64.wrap ((k : Int) + 1) = (k : Int) + 1 := IntWalk.i64_in _ (by omega)
   go_wp2
   go_round
   case rel => exact ⟨k + 1, by omega, by go_num, by rw [← HD.out]⟩
   case measure => simp [intOf]; omega
  ·obtain rfl : k = f := by omega
   have hlt' : ¬ ((k : Int) < k) := by omega
   go_wp2
   go_loop [8, 9] (fun a i => ∃ j : Nat, j ≤ n ∧ i = .int .i64 j ∧ a = .int .u64 (2 ^ j)) (fun _ i => n - (intOf i).toNat)
   case atStart => exact ⟨0, by omega, rfl, rfl⟩
   case round =>
    obtain ⟨j, hj, rfl, rfl⟩ := hrel
    have hp := pow_bd (k := j) (n := 63) (by omega)
    have hp2 := pow_bd (k := n) (n := 63) (by omega)
    have hps : (2 : Int) ^ (j + 1) = 2 * 2 ^ j := by rw [Int.pow_succ, Int.mul_comm]
    have h63 : (2 : Int) ^ 63 = 9223372036854775808 := by decide
    rw [h63] at hp hp2
    obtain ⟨z, hz⟩ : ∃ z : Int, 2 ^ j = z := ⟨_, rfl⟩
    rw [hz] at hp hps ⊢
    have HPS := LH hps
    have HZ := LH hz
    clear hps hz h63
    by_cases hlt2 : j < n
    ·have hlt2' : (j : Int) < n := by omega
     have hw : IntKind.i64.wrap ((j : Int) + 1) = (j : Int) + 1 := IntWalk.i64_in _ (by omega)
     have hpl := pow_bd (k := j + 1) (n := 63) (by omega)
     have hw2 : IntKind.u64.wrap (2 * z) = 2 * z := IntWalk.u64_in _ (by rw [HPS.out] at hpl; omega)
     clear hpl
     go_wp2
     go_round
     case rel => exact ⟨j + 1, by omega, by go_num, by rw [← HPS.out]⟩
     case measure => simp [intOf]; omega
    ·obtain rfl : j = n := by omega
     have hlt2' : ¬ ((j : Int) < j) := by omega
     have hz0 : z ≠ 0 := by omega
     have hz1 : 1 ≤ z := hp.1
     clear hp hp2
     go_wp2
     go_ret
     exact ⟨ret_i (by rw [HY.out, HZ.out]), rfl⟩
theorem rsigned_calls (x : Int) (w : World) (hx : 0 ≤ x) (hx2 : x < 1073741824) :
    Calls Tryz.prog 200 #[.int .u64 x, .int .i64 30] w fun e w' => e = .returned (.int .i64 (sg30 x)) ∧ w = w' := by
 go_enter Tryz.func200, Tryz.ntmps200
 go_wp2
 go_loop [5, 6] (fun a i => ∃ j : Nat, j ≤ 29 ∧ i = .int .i64 (j + 1 : Nat) ∧ a = .int .i64 (2 ^ j)) (fun _ i => 30 - (intOf i).toNat)
 case atStart => exact ⟨0, by omega, rfl, rfl⟩
 case round =>
  obtain ⟨j, hj, rfl, rfl⟩ := hrel
  have hp := pow_bd (k := j) (n := 29) (by omega)
  have hps : (2 : Int) ^ (j + 1) = 2 * 2 ^ j := by rw [Int.pow_succ, Int.mul_comm]
  have h29 : (2 : Int) ^ 29 = 536870912 := by decide
  rw [h29] at hp
  have h29' : j = 29 → (2 : Int) ^ j = 536870912 := fun e => by rw [e]; exact h29
  obtain ⟨z, hz⟩ : ∃ z : Int, 2 ^ j = z := ⟨_, rfl⟩
  rw [hz] at hp hps h29' ⊢
  have HPS := LH hps
  have H29 := LH h29'
  clear hps hz h29 h29'
  by_cases hlt : j < 29
  ·have hlt' : ((j + 1 : Nat) : Int) < 30 := by omega
   have hw : IntKind.i64.wrap (((j + 1 : Nat) : Int) + 1) = ((j + 1 : Nat) : Int) + 1 := IntWalk.i64_in _ (by omega)
   have hw2 : IntKind.i64.wrap (2 * z) = 2 * z := IntWalk.i64_in _ (by omega)
   obtain ⟨j1, hj1⟩ : ∃ j1, j + 1 = j1 := ⟨_, rfl⟩
   rw [hj1] at hlt' hw ⊢
   have HJ := LH hj1
   clear hj1
   go_wp2
   go_round
   case rel => exact ⟨j + 1, by omega, by rw [HJ.out]; go_num, by rw [← HPS.out]⟩
   case measure => simp [intOf]; have := HJ.out; omega
  ·obtain rfl : j = 29 := by omega
   have hz := H29.out rfl
   subst hz
   clear H29 HPS hp hj hlt
   by_cases h5 : x < 536870912
   ·have hc : x % 1073741824 = x := by omega
    have h5' : ¬ 536870912 ≤ x := by omega
    go_wp2
    go_ret
    exact ⟨ret_i (sg30_lo h5), rfl⟩
   ·have hc : x % 1073741824 = x := by omega
    have h5' : 536870912 ≤ x := by omega
    go_wp2
    go_ret
    exact ⟨ret_i (sg30_hi h5'), rfl⟩
theorem rb_calls (x : Int) (f n : Nat) (F N : Int) (w : World) (hx : 0 ≤ x) (hx2 : x ≤ 18446744073709551615) (hf : f ≤ 63) (hn : n ≤ 63) (hF : (2 : Int) ^ f = F) (hN : (2 : Int) ^ n = N) :
    Calls Tryz.prog 199 #[.int .u64 x, .int .i64 f, .int .i64 n] w fun e w' => e = .returned (.int .u64 (x / F % N)) ∧ w = w' := by
 subst hF hN
 exact rbits_calls x f n w hx hx2 hf hn
def RDecPost (x : Int) (w : World) (e : Ending) (w' : World) : Prop := e = .returned (.tuple #[.agg #[.int .i64 (ptrDec x).1.kind, .int .i64 (ptrDec x).1.off, .int .i64 (ptrDec x).1.data, .int .i64 (ptrDec x).1.ptrs, .int .i64 (ptrDec x).1.size, .int .i64 (ptrDec x).1.count, .int .i64 (ptrDec x).1.seg, .bool (ptrDec x).1.dbl], .int .i64 (ptrDec x).2]) ∧ Grow w w'
theorem rdec_nil (w : World) : Calls Tryz.prog 129 #[.int .u64 0] w (RDecPost 0 w) := by
 go_enter Tryz.func129, Tryz.ntmps129
 go_wp2
 refine bodyPost_ret (v := .tuple #[.agg #[.int .i64 0, .int .i64 0, .int .i64 0, .int .i64 0, .int .i64 0, .int .i64 0, .int .i64 0, .bool false], .int .i64 0]) ?_ rfl ⟨rfl, (Keep.refl NoB _).alloc _⟩
 rw [results_cell_tmp rfl]; go_simp
theorem rdec_struct (x : Int) (w : World) (hx : 0 ≤ x) (hx2 : x ≤ 18446744073709551615) (h0 : ¬ x = 0) (hm : x % 4 = 0) : Calls Tryz.prog 129 #[.int .u64 x] w (RDecPost x w) := by
 have h0b : (x == 0) = false := beq_eq_false_iff_ne.2 h0
 have m0 : (x % 4 == 0) = true := by rw [beq_iff_eq]; omega
 have m1 : (x % 4 == 1) = false := by rw [beq_eq_false_iff_ne]; omega
 have m2 : (x % 4 == 2) = false := by rw [beq_eq_false_iff_ne]; omega
 have HE : Hid (ptrDec x = (⟨1, sg30 (x / 4 % 1073741824), x / 4294967296 % 65536, x / 281474976710656 % 65536, 0, 0, 0, false⟩, 0)) := LH (by unfold ptrDec; rw [if_neg h0, if_pos hm])
 clear hm h0
 go_enter Tryz.func129, Tryz.ntmps129
 go_wp2_with fail
 refine (rb_calls x 2 30 4 1073741824 _ hx hx2 (by omega) (by omega) (by decide) (by decide)).mono ?_
 rintro e w1 ⟨rfl, rfl⟩
 go_wp2_with fail
 refine (rsigned_calls (x / 4 % 1073741824) _ (by omega) (by omega)).mono ?_
 rintro e w2 ⟨rfl, rfl⟩
 go_wp2_with fail
 refine (rb_calls x 32 16 4294967296 65536 _ hx hx2 (by omega) (by omega) (by decide) (by decide)).mono ?_
 rintro e w3 ⟨rfl, rfl⟩
 go_wp2_with fail
 refine (rb_calls x 48 16 281474976710656 65536 _ hx hx2 (by omega) (by omega) (by decide) (by decide)).mono ?_
 rintro e w4 ⟨rfl, rfl⟩
 go_wp2
 refine bodyPost_ret (v := .tuple #[.agg #[.int .i64 1, .int .i64 (sg30 (x / 4 % 1073741824)), .int .i64 (x / 4294967296 % 65536), .int .i64 (x / 281474976710656 % 65536), .int .i64 0, .int .i64 0, .int .i64 0, .bool false], .int .i64 0]) ?_ rfl ⟨?_, (Keep.refl NoB _).alloc _⟩
 ·rw [results_cell_tmp rfl]; go_simp
 ·rw [HE.out]
theorem rdec_list (x : Int) (w : World) (hx : 0 ≤ x) (hx2 : x ≤ 18446744073709551615) (h0 : ¬ x = 0) (hm : x % 4 = 1) : Calls Tryz.prog 129 #[.int .u64 x] w (RDecPost x w) := by
 have h0b : (x == 0) = false := beq_eq_false_iff_ne.2 h0
 have m0 : (x % 4 == 0) = false := by rw [beq_eq_false_iff_ne]; omega
 have m1 : (x % 4 == 1) = true := by rw [beq_iff_eq]; omega
 have m2 : (x % 4 == 2) = false := by rw [beq_eq_false_iff_ne]; omega
 have HE : Hid (ptrDec x = (⟨2, sg30 (x / 4 % 1073741824), 0, 0, x / 4294967296 % 8, x / 34359738368 % 536870912, 0, false⟩, 0)) := LH (by unfold ptrDec; rw [if_neg h0, if_neg (by omega), if_pos hm])
 clear hm h0
 go_enter Tryz.func129, Tryz.ntmps129
 go_wp2_with fail
 refine (rb_calls x 2 30 4 1073741824 _ hx hx2 (by omega) (by omega) (by decide) (by decide)).mono ?_
 rintro e w1 ⟨rfl, rfl⟩
 go_wp2_with fail
 refine (rsigned_calls (x / 4 % 1073741824) _ (by omega) (by omega)).mono ?_
 rintro e w2 ⟨rfl, rfl⟩
 go_wp2_with fail
 refine (rb_calls x 32 3 4294967296 8 _ hx hx2 (by omega) (by omega) (by decide) (by decide)).mono ?_
 rintro e w3 ⟨rfl, rfl⟩
 go_wp2_with fail
 refine (rb_calls x 35 29 34359738368 536870912 _ hx hx2 (by omega) (by omega) (by decide) (by decide)).mono ?_
 rintro e w4 ⟨rfl, rfl⟩
 go_wp2
 refine bodyPost_ret (v := .tuple #[.agg #[.int .i64 2, .int .i64 (sg30 (x / 4 % 1073741824)), .int .i64 0, .int .i64 0, .int .i64 (x / 4294967296 % 8), .int .i64 (x / 34359738368 % 536870912), .int .i64 0, .bool false], .int .i64 0]) ?_ rfl ⟨?_, (Keep.refl NoB _).alloc _⟩
 ·rw [results_cell_tmp rfl]; go_simp
 ·rw [HE.out]
theorem rdec_far (x : Int) (w : World) (hx : 0 ≤ x) (hx2 : x ≤ 18446744073709551615) (h0 : ¬ x = 0) (hm : x % 4 = 2) : Calls Tryz.prog 129 #[.int .u64 x] w (RDecPost x w) := by
 have h0b : (x == 0) = false := beq_eq_false_iff_ne.2 h0
 have m0 : (x % 4 == 0) = false := by rw [beq_eq_false_iff_ne]; omega
 have m1 : (x % 4 == 1) = false := by rw [beq_eq_false_iff_ne]; omega
 have m2 : (x % 4 == 2) = true := by rw [beq_iff_eq]; omega
 have HE : Hid (ptrDec x = (⟨3, x / 8 % 536870912, 0, 0, 0, 0, x / 4294967296 % 4294967296, (x / 4 % 2 == 1)⟩, 0)) := LH (by unfold ptrDec; rw [if_neg h0, if_neg (by omega), if_neg (by omega), if_pos hm])
 clear hm h0
 go_enter Tryz.func129, Tryz.ntmps129
 go_wp2_with fail
 refine (rb_calls x 2 30 4 1073741824 _ hx hx2 (by omega) (by omega) (by decide) (by decide)).mono ?_
 rintro e w1 ⟨rfl, rfl⟩
 go_wp2_with fail
 refine (rsigned_calls (x / 4 % 1073741824) _ (by omega) (by omega)).mono ?_
 rintro e w2 ⟨rfl, rfl⟩
 go_wp2_with fail
 refine (rb_calls x 3 29 8 536870912 _ hx hx2 (by omega) (by omega) (by decide) (by decide)).mono ?_
 rintro e w3 ⟨rfl, rfl⟩
 go_wp2_with fail
 refine (rb_calls x 32 32 4294967296 4294967296 _ hx hx2 (by omega) (by omega) (by decide) (by decide)).mono ?_
 rintro e w4 ⟨rfl, rfl⟩
 go_wp2_with fail
 refine (rb_calls x 2 1 4 2 _ hx hx2 (by omega) (by omega) (by decide) (by decide)).mono ?_
 rintro e w5 ⟨rfl, rfl⟩
 go_wp2
 refine bodyPost_ret (v := .tuple #[.agg #[.int .i64 3, .int .i64 (x / 8 % 536870912), .int .i64 0, .int .i64 0, .int .i64 0, .int .i64 0, .int .i64 (x / 4294967296 % 4294967296), .bool (x / 4 % 2 == 1)], .int .i64 0]) ?_ rfl ⟨?_, (Keep.refl NoB _).alloc _⟩
 ·rw [results_cell_tmp rfl]; go_simp
 ·rw [HE.out]
theorem rdec_bad (x : Int) (w : World) (hx : 0 ≤ x) (hx2 : x ≤ 18446744073709551615) (h0 : ¬ x = 0) (hm : x % 4 = 3) : Calls Tryz.prog 129 #[.int .u64 x] w (RDecPost x w) := by
 have h0b : (x == 0) = false := beq_eq_false_iff_ne.2 h0
 have m0 : (x % 4 == 0) = false := by rw [beq_eq_false_iff_ne]; omega
 have m1 : (x % 4 == 1) = false := by rw [beq_eq_false_iff_ne]; omega
 have m2 : (x % 4 == 2) = false := by rw [beq_eq_false_iff_ne]; omega
 have HE : Hid (ptrDec x = (pt0, 23)) := LH (by unfold ptrDec; rw [if_neg h0, if_neg (by omega), if_neg (by omega), if_neg (by omega)])
 clear hm h0
 go_enter Tryz.func129, Tryz.ntmps129
 go_wp2_with fail
 refine (rb_calls x 2 30 4 1073741824 _ hx hx2 (by omega) (by omega) (by decide) (by decide)).mono ?_
 rintro e w1 ⟨rfl, rfl⟩
 go_wp2_with fail
 refine (rsigned_calls (x / 4 % 1073741824) _ (by omega) (by omega)).mono ?_
 rintro e w2 ⟨rfl, rfl⟩
 go_wp2
 refine bodyPost_ret (v := .tuple #[.agg #[.int .i64 0, .int .i64 0, .int .i64 0, .int .i64 0, .int .i64 0, .int .i64 0, .int .i64 0, .bool false], .int .i64 23]) ?_ rfl ⟨?_, (Keep.refl NoB _).alloc _⟩
 ·rw [results_cell_tmp rfl]; go_simp
 ·rw [HE.out]; rfl
theorem rdec_calls (x : Int) (w : World) (hx : 0 ≤ x) (hx2 : x ≤ 18446744073709551615) : Calls Tryz.prog 129 #[.int .u64 x] w (RDecPost x w) := by
 by_cases h0 : x = 0
 ·subst h0; exact rdec_nil w
 ·rcases (by omega : x % 4 = 0 ∨ x % 4 = 1 ∨ x % 4 = 2 ∨ x % 4 = 3) with h | h | h | h
  ·exact rdec_struct x w hx hx2 h0 h
  ·exact rdec_list x w hx hx2 h0 h
  ·exact rdec_far x w hx hx2 h0 h
  ·exact rdec_bad x w hx hx2 h0 h
theorem u64_bd (x : Int) : 0 ≤ IntKind.u64.wrap x ∧ IntKind.u64.wrap x ≤ 18446744073709551615 := by
 have : IntKind.u64.wrap x = x % 18446744073709551616 := rfl
 omega
theorem rlow_calls (x : Int) (n : Nat) (w : World) (hn : n ≤ 63) :
    Calls Tryz.prog 128 #[.int .i64 x, .int .i64 n] w fun e w' => e = .returned (.int .u64 (IntKind.u64.wrap x % 2 ^ n)) ∧ w = w' := by
 obtain ⟨y, hy⟩ : ∃ y, IntKind.u64.wrap x = y := ⟨_, rfl⟩
 have hb := u64_bd x
 rw [hy] at hb ⊢
 go_enter Tryz.func128, Tryz.ntmps128
 go_wp2_with fail
 try rw [hy]
 have hr := rbits_calls y 0 n w hb.1 hb.2 (by omega) hn
 refine hr.mono ?_
 rintro e w1 ⟨rfl, rfl⟩
 clear hr hy
 go_wp2
 go_ret
 exact ⟨ret_i (by simp), rfl⟩
def EncPost (w : World) (e : Ending) (w' : World) : Prop := ∃ x r : Int, e = .returned (.tuple #[.int .u64 x, .int .i64 r]) ∧ 0 ≤ x ∧ x ≤ 18446744073709551615 ∧ Grow w w'
theorem renc_none (p : Pt) (w : World) (hk : p.kind ≠ 1 ∧ p.kind ≠ 2 ∧ p.kind ≠ 3) : Calls Tryz.prog 58 #[.agg #[.int .i64 p.kind, .int .i64 p.off, .int .i64 p.data, .int .i64 p.ptrs, .int .i64 p.size, .int .i64 p.count, .int .i64 p.seg, .bool p.dbl]] w (EncPost w) := by
 have HG := LH ((Keep.refl NoB w).alloc (.cells #[.int .i64 p.kind, .int .i64 p.off, .int .i64 p.data, .int .i64 p.ptrs, .int .i64 p.size, .int .i64 p.count, .int .i64 p.seg, .bool p.dbl] 120))
 have HC := LH (heap_alloc_new w (.cells #[.int .i64 p.kind, .int .i64 p.off, .int .i64 p.data, .int .i64 p.ptrs, .int .i64 p.size, .int .i64 p.count, .int .i64 p.seg, .bool p.dbl] 120))
 have k1 : (p.kind == 1) = false := by rw [beq_eq_false_iff_ne]; omega
 have k2 : (p.kind == 2) = false := by rw [beq_eq_false_iff_ne]; omega
 have k3 : (p.kind == 3) = false := by rw [beq_eq_false_iff_ne]; omega
 clear hk
 go_enter Tryz.func58, Tryz.ntmps58
 go_wp2_with fail
 refine (rdec_calls _ _ ((⟨by omega, by omega⟩ : (0 : Int) ≤ 0 ∧ (0 : Int) ≤ 18446744073709551615)).1 ((⟨by omega, by omega⟩ : (0 : Int) ≤ 0 ∧ (0 : Int) ≤ 18446744073709551615)).2).mono ?_
 rintro e w9 ⟨rfl, hg9⟩
 replace HG := LH (HG.out.grow hg9)
 replace HC := LH (Grow.heap hg9 HC.out)
 have HXB := LH ((⟨by omega, by omega⟩ : (0 : Int) ≤ 0 ∧ (0 : Int) ≤ 18446744073709551615))
 generalize ptrDec (0) = R at hg9 ⊢
 clear hg9
 obtain ⟨z0, z1, z2, z3, z4, z5, z6, z7, zf⟩ := cells8 HC.out
 have hlt9 := (gE HC.out).1
 have hne9 : w9.heap.size ≠ w.heap.size := by omega
 have hne8 : w.heap.size ≠ w9.heap.size := by omega
 go_wp2
 all_goals
  go_ret2
  refine ⟨_, _, rfl, ?_, ?_, HG.out.alloc _⟩ <;> first | exact HXB.out.1 | exact HXB.out.2 | omega
theorem renc_struct (p : Pt) (w : World) (hk : p.kind = 1) : Calls Tryz.prog 58 #[.agg #[.int .i64 p.kind, .int .i64 p.off, .int .i64 p.data, .int .i64 p.ptrs, .int .i64 p.size, .int .i64 p.count, .int .i64 p.seg, .bool p.dbl]] w (EncPost w) := by
 have HG := LH ((Keep.refl NoB w).alloc (.cells #[.int .i64 p.kind, .int .i64 p.off, .int .i64 p.data, .int .i64 p.ptrs, .int .i64 p.size, .int .i64 p.count, .int .i64 p.seg, .bool p.dbl] 120))
 have HC := LH (heap_alloc_new w (.cells #[.int .i64 p.kind, .int .i64 p.off, .int .i64 p.data, .int .i64 p.ptrs, .int .i64 p.size, .int .i64 p.count, .int .i64 p.seg, .bool p.dbl] 120))
 have k1 : (p.kind == 1) = true := by rw [beq_iff_eq]; omega
 have k2 : (p.kind == 2) = false := by rw [beq_eq_false_iff_ne]; omega
 have k3 : (p.kind == 3) = false := by rw [beq_eq_false_iff_ne]; omega
 clear hk
 go_enter Tryz.func58, Tryz.ntmps58
 go_wp2
 generalize w.alloc (.cells #[.int .i64 p.kind, .int .i64 p.off, .int .i64 p.data, .int .i64 p.ptrs, .int .i64 p.size, .int .i64 p.count, .int .i64 p.seg, .bool p.dbl] 120) = w1 at HG HC ⊢
 generalize w.heap.size = B at HC ⊢
 obtain ⟨z0, z1, z2, z3, z4, z5, z6, z7, zf⟩ := cells8 HC.out
 refine region_ord [0, 1, 4, 5, 9, 10, 2, 3, 6, 7, 8, 11, 12, 13, 14] [2, 6, 11, 14] [1, 5, 10] [] rfl (by kernel_rfl) ?_
 refine ord_pure rfl rfl rfl rfl rfl (fun _ _ _ _ h => h) ?_ ?_ ?_ ?_ ?_
 rotate_left 2
 ·intro w'; go_simp; with_reducible rfl
 ·simp only [Act.put, pB, pC, pD]; rfl
 refine ord_read rfl rfl rfl rfl rfl (fun _ _ _ _ h => h) ?_ ?_ ?_ ?_ ?_
 rotate_left 2
 ·intro w' hg; have q := hg.cell z1 (fun h => h); go_simp; with_reducible rfl
 ·simp only [Act.put, pB, pC, pD]; rfl
 refine ord_pure rfl rfl rfl rfl rfl (fun _ _ _ _ h => h) ?_ ?_ ?_ ?_ ?_
 rotate_left 2
 ·intro w'; go_simp; with_reducible rfl
 ·simp only [Act.put, pB, pC, pD]; rfl
 refine ord_read rfl rfl rfl rfl rfl (fun _ _ _ _ h => h) ?_ ?_ ?_ ?_ ?_
 rotate_left 2
 ·intro w' hg; have q := hg.cell z2 (fun h => h); go_simp; with_reducible rfl
 ·simp only [Act.put, pB, pC, pD]; rfl
 refine ord_pure rfl rfl rfl rfl rfl (fun _ _ _ _ h => h) ?_ ?_ ?_ ?_ ?_
 rotate_left 2
 ·intro w'; go_simp; with_reducible rfl
 ·simp only [Act.put, pB, pC, pD]; rfl
 refine ord_read rfl rfl rfl rfl rfl (fun _ _ _ _ h => h) ?_ ?_ ?_ ?_ ?_
 rotate_left 2
 ·intro w' hg; have q := hg.cell z3 (fun h => h); go_simp; with_reducible rfl
 ·simp only [Act.put, pB, pC, pD]; rfl
 refine ord_call rfl rfl rfl rfl rfl Tryz.func128 rfl rfl [.int .i64 p.off, .int .i64 30] rfl ?_
 refine (rlow_calls p.off 30 _ (by omega)).mono ?_
 rintro e w' ⟨rfl, rfl⟩
 refine ⟨_, rfl, fun _ => Keep.refl _ _, ?_⟩
 simp only [Act.put, pB, pC, pD]
 refine ord_pure rfl rfl rfl rfl rfl (fun _ _ _ _ h => h) ?_ ?_ ?_ ?_ ?_
 rotate_left 2
 ·intro w'; go_simp; with_reducible rfl
 ·simp only [Act.put, pB, pC, pD]; rfl
 refine ord_call rfl rfl rfl rfl rfl Tryz.func128 rfl rfl [.int .i64 p.data, .int .i64 16] rfl ?_
 refine (rlow_calls p.data 16 _ (by omega)).mono ?_
 rintro e w' ⟨rfl, rfl⟩
 refine ⟨_, rfl, fun _ => Keep.refl _ _, ?_⟩
 simp only [Act.put, pB, pC, pD]
 iterate 2
  refine ord_pure rfl rfl rfl rfl rfl (fun _ _ _ _ h => h) ?_ ?_ ?_ ?_ ?_
  rotate_left 2
  ·intro w'; go_simp; with_reducible rfl
  ·simp only [Act.put, pB, pC, pD]; rfl
 refine ord_call rfl rfl rfl rfl rfl Tryz.func128 rfl rfl [.int .i64 p.ptrs, .int .i64 16] rfl ?_
 refine (rlow_calls p.ptrs 16 _ (by omega)).mono ?_
 rintro e w' ⟨rfl, rfl⟩
 refine ⟨_, rfl, fun _ => Keep.refl _ _, ?_⟩
 simp only [Act.put, pB, pC, pD]
 iterate 2
  refine ord_pure rfl rfl rfl rfl rfl (fun _ _ _ _ h => h) ?_ ?_ ?_ ?_ ?_
  rotate_left 2
  ·intro w'; go_simp; with_reducible rfl
  ·simp only [Act.put, pB, pC, pD]; rfl
 refine ord_set rfl rfl rfl rfl ?_ ?_ ?_ ?_ ?_
 rotate_left 2
 ·go_simp; with_reducible rfl
 ·simp only [Act.put, pB, pC, pD]; rfl
 refine ord_nil ?_
 replace HG := LH HG.out.drew
 replace HC := LH (show w1.drew.heap[_]? = _ from HC.out)
 clear z0 z1 z2 z3 z4 z5 z6 z7 zf
 generalize w1.drew = w2 at HG HC ⊢
 go_wp2_with fail
 generalize hX : 4 * (IntKind.u64.wrap p.off % 1073741824) + IntKind.u64.wrap p.data % 65536 * 4294967296 + IntKind.u64.wrap p.ptrs % 65536 * 281474976710656 = X
 have hxx : 0 ≤ X ∧ X ≤ 18446744073709551615 := by omega
 clear hX
 refine (rdec_calls _ _ (hxx).1 (hxx).2).mono ?_
 rintro e w9 ⟨rfl, hg9⟩
 replace HG := LH (HG.out.grow hg9)
 replace HC := LH (Grow.heap hg9 HC.out)
 have HXB := LH (hxx)
 generalize ptrDec (X) = R at hg9 ⊢
 clear hg9
 obtain ⟨z0, z1, z2, z3, z4, z5, z6, z7, zf⟩ := cells8 HC.out
 have hlt9 := (gE HC.out).1
 have hne9 : w9.heap.size ≠ B := by omega
 have hne8 : B ≠ w9.heap.size := by omega
 go_wp2
 all_goals
  go_ret2
  refine ⟨_, _, rfl, ?_, ?_, HG.out.alloc _⟩ <;> first | exact HXB.out.1 | exact HXB.out.2 | omega
theorem renc_list (p : Pt) (w : World) (hk : p.kind = 2) : Calls Tryz.prog 58 #[.agg #[.int .i64 p.kind, .int .i64 p.off, .int .i64 p.data, .int .i64 p.ptrs, .int .i64 p.size, .int .i64 p.count, .int .i64 p.seg, .bool p.dbl]] w (EncPost w) := by
 have HG := LH ((Keep.refl NoB w).alloc (.cells #[.int .i64 p.kind, .int .i64 p.off, .int .i64 p.data, .int .i64 p.ptrs, .int .i64 p.size, .int .i64 p.count, .int .i64 p.seg, .bool p.dbl] 120))
 have HC := LH (heap_alloc_new w (.cells #[.int .i64 p.kind, .int .i64 p.off, .int .i64 p.data, .int .i64 p.ptrs, .int .i64 p.size, .int .i64 p.count, .int .i64 p.seg, .bool p.dbl] 120))
 have k1 : (p.kind == 1) = false := by rw [beq_eq_false_iff_ne]; omega
 have k2 : (p.kind == 2) = true := by rw [beq_iff_eq]; omega
 have k3 : (p.kind == 3) = false := by rw [beq_eq_false_iff_ne]; omega
 clear hk
 go_enter Tryz.func58, Tryz.ntmps58
 go_wp2
 generalize w.alloc (.cells #[.int .i64 p.kind, .int .i64 p.off, .int .i64 p.data, .int .i64 p.ptrs, .int .i64 p.size, .int .i64 p.count, .int .i64 p.seg, .bool p.dbl] 120) = w1 at HG HC ⊢
 generalize w.heap.size = B at HC ⊢
 obtain ⟨z0, z1, z2, z3, z4, z5, z6, z7, zf⟩ := cells8 HC.out
 refine region_ord [0, 1, 5, 6, 10, 11, 2, 3, 4, 7, 8, 9, 12, 13, 14, 15] [2, 7, 12, 15] [1, 6, 11] [] rfl (by kernel_rfl) ?_
 refine ord_pure rfl rfl rfl rfl rfl (fun _ _ _ _ h => h) ?_ ?_ ?_ ?_ ?_
 rotate_left 2
 ·intro w'; go_simp; with_reducible rfl
 ·simp only [Act.put, pB, pC, pD]; rfl
 refine ord_read rfl rfl rfl rfl rfl (fun _ _ _ _ h => h) ?_ ?_ ?_ ?_ ?_
 rotate_left 2
 ·intro w' hg; have q := hg.cell z1 (fun h => h); go_simp; with_reducible rfl
 ·simp only [Act.put, pB, pC, pD]; rfl
 refine ord_pure rfl rfl rfl rfl rfl (fun _ _ _ _ h => h) ?_ ?_ ?_ ?_ ?_
 rotate_left 2
 ·intro w'; go_simp; with_reducible rfl
 ·simp only [Act.put, pB, pC, pD]; rfl
 refine ord_read rfl rfl rfl rfl rfl (fun _ _ _ _ h => h) ?_ ?_ ?_ ?_ ?_
 rotate_left 2
 ·intro w' hg; have q := hg.cell z4 (fun h => h); go_simp; with_reducible rfl
 ·simp only [Act.put, pB, pC, pD]; rfl
 refine ord_pure rfl rfl rfl rfl rfl (fun _ _ _ _ h => h) ?_ ?_ ?_ ?_ ?_
 rotate_left 2
 ·intro w'; go_simp; with_reducible rfl
 ·simp only [Act.put, pB, pC, pD]; rfl
 refine ord_read rfl rfl rfl rfl rfl (fun _ _ _ _ h => h) ?_ ?_ ?_ ?_ ?_
 rotate_left 2
 ·intro w' hg; have q := hg.cell z5 (fun h => h); go_simp; with_reducible rfl
 ·simp only [Act.put, pB, pC, pD]; rfl
 refine ord_call rfl rfl rfl rfl rfl Tryz.func128 rfl rfl [.int .i64 p.off, .int .i64 30] rfl ?_
 refine (rlow_calls p.off 30 _ (by omega)).mono ?_
 rintro e w' ⟨rfl, rfl⟩
 refine ⟨_, rfl, fun _ => Keep.refl _ _, ?_⟩
 simp only [Act.put, pB, pC, pD]
 iterate 2
  refine ord_pure rfl rfl rfl rfl rfl (fun _ _ _ _ h => h) ?_ ?_ ?_ ?_ ?_
  rotate_left 2
  ·intro w'; go_simp; with_reducible rfl
  ·simp only [Act.put, pB, pC, pD]; rfl
 refine ord_call rfl rfl rfl rfl rfl Tryz.func128 rfl rfl [.int .i64 p.size, .int .i64 3] rfl ?_
 refine (rlow_calls p.size 3 _ (by omega)).mono ?_
 rintro e w' ⟨rfl, rfl⟩
 refine ⟨_, rfl, fun _ => Keep.refl _ _, ?_⟩
 simp only [Act.put, pB, pC, pD]
 iterate 2
  refine ord_pure rfl rfl rfl rfl rfl (fun _ _ _ _ h => h) ?_ ?_ ?_ ?_ ?_
  rotate_left 2
  ·intro w'; go_simp; with_reducible rfl
  ·simp only [Act.put, pB, pC, pD]; rfl
 refine ord_call rfl rfl rfl rfl rfl Tryz.func128 rfl rfl [.int .i64 p.count, .int .i64 29] rfl ?_
 refine (rlow_calls p.count 29 _ (by omega)).mono ?_
 rintro e w' ⟨rfl, rfl⟩
 refine ⟨_, rfl, fun _ => Keep.refl _ _, ?_⟩
 simp only [Act.put, pB, pC, pD]
 iterate 2
  refine ord_pure rfl rfl rfl rfl rfl (fun _ _ _ _ h => h) ?_ ?_ ?_ ?_ ?_
  rotate_left 2
  ·intro w'; go_simp; with_reducible rfl
  ·simp only [Act.put, pB, pC, pD]; rfl
 refine ord_set rfl rfl rfl rfl ?_ ?_ ?_ ?_ ?_
 rotate_left 2
 ·go_simp; with_reducible rfl
 ·simp only [Act.put, pB, pC, pD]; rfl
 refine ord_nil ?_
 replace HG := LH HG.out.drew
 replace HC := LH (show w1.drew.heap[_]? = _ from HC.out)
 clear z0 z1 z2 z3 z4 z5 z6 z7 zf
 generalize w1.drew = w2 at HG HC ⊢
 go_wp2_with fail
 generalize hX : 1 + 4 * (IntKind.u64.wrap p.off % 1073741824) + IntKind.u64.wrap p.size % 8 * 4294967296 + IntKind.u64.wrap p.count % 536870912 * 34359738368 = X
 have hxx : 0 ≤ X ∧ X ≤ 18446744073709551615 := by omega
 clear hX
 refine (rdec_calls _ _ (hxx).1 (hxx).2).mono ?_
 rintro e w9 ⟨rfl, hg9⟩
 replace HG := LH (HG.out.grow hg9)
 replace HC := LH (Grow.heap hg9 HC.out)
 have HXB := LH (hxx)
 generalize ptrDec (X) = R at hg9 ⊢
 clear hg9
 obtain ⟨z0, z1, z2, z3, z4, z5, z6, z7, zf⟩ := cells8 HC.out
 have hlt9 := (gE HC.out).1
 have hne9 : w9.heap.size ≠ B := by omega
 have hne8 : B ≠ w9.heap.size := by omega
 go_wp2
 all_goals
  go_ret2
  refine ⟨_, _, rfl, ?_, ?_, HG.out.alloc _⟩ <;> first | exact HXB.out.1 | exact HXB.out.2 | omega
theorem renc_far0 (p : Pt) (w : World) (hk : p.kind = 3 ∧ p.dbl = false) : Calls Tryz.prog 58 #[.agg #[.int .i64 p.kind, .int .i64 p.off, .int .i64 p.data, .int .i64 p.ptrs, .int .i64 p.size, .int .i64 p.count, .int .i64 p.seg, .bool p.dbl]] w (EncPost w) := by
 have HG := LH ((Keep.refl NoB w).alloc (.cells #[.int .i64 p.kind, .int .i64 p.off, .int .i64 p.data, .int .i64 p.ptrs, .int .i64 p.size, .int .i64 p.count, .int .i64 p.seg, .bool p.dbl] 120))
 have HC := LH (heap_alloc_new w (.cells #[.int .i64 p.kind, .int .i64 p.off, .int .i64 p.data, .int .i64 p.ptrs, .int .i64 p.size, .int .i64 p.count, .int .i64 p.seg, .bool p.dbl] 120))
 have k1 : (p.kind == 1) = false := by rw [beq_eq_false_iff_ne]; omega
 have k2 : (p.kind == 2) = false := by rw [beq_eq_false_iff_ne]; omega
 have k3 : (p.kind == 3) = true := by rw [beq_iff_eq]; omega
 have HDB := LH hk.2
 clear hk
 go_enter Tryz.func58, Tryz.ntmps58
 go_wp2
 generalize w.alloc (.cells #[.int .i64 p.kind, .int .i64 p.off, .int .i64 p.data, .int .i64 p.ptrs, .int .i64 p.size, .int .i64 p.count, .int .i64 p.seg, .bool p.dbl] 120) = w1 at HG HC ⊢
 generalize w.heap.size = B at HC ⊢
 obtain ⟨z0, z1, z2, z3, z4, z5, z6, z7, zf⟩ := cells8 HC.out
 refine region_ord [0, 1, 5, 6, 2, 3, 4, 7, 8, 9, 10] [2, 7, 10] [1, 6] [] rfl (by kernel_rfl) ?_
 refine ord_pure rfl rfl rfl rfl rfl (fun _ _ _ _ h => h) ?_ ?_ ?_ ?_ ?_
 rotate_left 2
 ·intro w'; go_simp; with_reducible rfl
 ·simp only [Act.put, pB, pC, pD]; rfl
 refine ord_read rfl rfl rfl rfl rfl (fun _ _ _ _ h => h) ?_ ?_ ?_ ?_ ?_
 rotate_left 2
 ·intro w' hg; have q := hg.cell z1 (fun h => h); go_simp; with_reducible rfl
 ·simp only [Act.put, pB, pC, pD]; rfl
 refine ord_pure rfl rfl rfl rfl rfl (fun _ _ _ _ h => h) ?_ ?_ ?_ ?_ ?_
 rotate_left 2
 ·intro w'; go_simp; with_reducible rfl
 ·simp only [Act.put, pB, pC, pD]; rfl
 refine ord_read rfl rfl rfl rfl rfl (fun _ _ _ _ h => h) ?_ ?_ ?_ ?_ ?_
 rotate_left 2
 ·intro w' hg; have q := hg.cell z6 (fun h => h); go_simp; with_reducible rfl
 ·simp only [Act.put, pB, pC, pD]; rfl
 refine ord_call rfl rfl rfl rfl rfl Tryz.func128 rfl rfl [.int .i64 p.off, .int .i64 29] rfl ?_
 refine (rlow_calls p.off 29 _ (by omega)).mono ?_
 rintro e w' ⟨rfl, rfl⟩
 refine ⟨_, rfl, fun _ => Keep.refl _ _, ?_⟩
 simp only [Act.put, pB, pC, pD]
 iterate 2
  refine ord_pure rfl rfl rfl rfl rfl (fun _ _ _ _ h => h) ?_ ?_ ?_ ?_ ?_
  rotate_left 2
  ·intro w'; go_simp; with_reducible rfl
  ·simp only [Act.put, pB, pC, pD]; rfl
 refine ord_call rfl rfl rfl rfl rfl Tryz.func128 rfl rfl [.int .i64 p.seg, .int .i64 32] rfl ?_
 refine (rlow_calls p.seg 32 _ (by omega)).mono ?_
 rintro e w' ⟨rfl, rfl⟩
 refine ⟨_, rfl, fun _ => Keep.refl _ _, ?_⟩
 simp only [Act.put, pB, pC, pD]
 iterate 2
  refine ord_pure rfl rfl rfl rfl rfl (fun _ _ _ _ h => h) ?_ ?_ ?_ ?_ ?_
  rotate_left 2
  ·intro w'; go_simp; with_reducible rfl
  ·simp only [Act.put, pB, pC, pD]; rfl
 refine ord_set rfl rfl rfl rfl ?_ ?_ ?_ ?_ ?_
 rotate_left 2
 ·go_simp; with_reducible rfl
 ·simp only [Act.put, pB, pC, pD]; rfl
 refine ord_nil ?_
 replace HG := LH HG.out.drew
 replace HC := LH (show w1.drew.heap[_]? = _ from HC.out)
 clear z0 z1 z2 z3 z4 z5 z6 z7 zf
 generalize w1.drew = w2 at HG HC ⊢
 have z7 := (cells8 HC.out).2.2.2.2.2.2.2.1
 rw [HDB.out] at z7
 go_wp2_with fail
 generalize hX : 2 + 8 * (IntKind.u64.wrap p.off % 536870912) + IntKind.u64.wrap p.seg % 4294967296 * 4294967296 = X
 have hxx : 0 ≤ X ∧ X ≤ 18446744073709551615 := by omega
 clear hX
 refine (rdec_calls _ _ (hxx).1 (hxx).2).mono ?_
 rintro e w9 ⟨rfl, hg9⟩
 replace HG := LH (HG.out.grow hg9)
 replace HC := LH (Grow.heap hg9 HC.out)
 have HXB := LH (hxx)
 generalize ptrDec (X) = R at hg9 ⊢
 clear hg9
 obtain ⟨z0, z1, z2, z3, z4, z5, z6, z7, zf⟩ := cells8 HC.out
 have hlt9 := (gE HC.out).1
 have hne9 : w9.heap.size ≠ B := by omega
 have hne8 : B ≠ w9.heap.size := by omega
 go_wp2
 all_goals
  go_ret2
  refine ⟨_, _, rfl, ?_, ?_, HG.out.alloc _⟩ <;> first | exact HXB.out.1 | exact HXB.out.2 | omega
theorem renc_far1 (p : Pt) (w : World) (hk : p.kind = 3 ∧ p.dbl = true) : Calls Tryz.prog 58 #[.agg #[.int .i64 p.kind, .int .i64 p.off, .int .i64 p.data, .int .i64 p.ptrs, .int .i64 p.size, .int .i64 p.count, .int .i64 p.seg, .bool p.dbl]] w (EncPost w) := by
 have HG := LH ((Keep.refl NoB w).alloc (.cells #[.int .i64 p.kind, .int .i64 p.off, .int .i64 p.data, .int .i64 p.ptrs, .int .i64 p.size, .int .i64 p.count, .int .i64 p.seg, .bool p.dbl] 120))
 have HC := LH (heap_alloc_new w (.cells #[.int .i64 p.kind, .int .i64 p.off, .int .i64 p.data, .int .i64 p.ptrs, .int .i64 p.size, .int .i64 p.count, .int .i64 p.seg, .bool p.dbl] 120))
 have k1 : (p.kind == 1) = false := by rw [beq_eq_false_iff_ne]; omega
 have k2 : (p.kind == 2) = false := by rw [beq_eq_false_iff_ne]; omega
 have k3 : (p.kind == 3) = true := by rw [beq_iff_eq]; omega
 have HDB := LH hk.2
 clear hk
 go_enter Tryz.func58, Tryz.ntmps58
 go_wp2
 generalize w.alloc (.cells #[.int .i64 p.kind, .int .i64 p.off, .int .i64 p.data, .int .i64 p.ptrs, .int .i64 p.size, .int .i64 p.count, .int .i64 p.seg, .bool p.dbl] 120) = w1 at HG HC ⊢
 generalize w.heap.size = B at HC ⊢
 obtain ⟨z0, z1, z2, z3, z4, z5, z6, z7, zf⟩ := cells8 HC.out
 refine region_ord [0, 1, 5, 6, 2, 3, 4, 7, 8, 9, 10] [2, 7, 10] [1, 6] [] rfl (by kernel_rfl) ?_
 refine ord_pure rfl rfl rfl rfl rfl (fun _ _ _ _ h => h) ?_ ?_ ?_ ?_ ?_
 rotate_left 2
 ·intro w'; go_simp; with_reducible rfl
 ·simp only [Act.put, pB, pC, pD]; rfl
 refine ord_read rfl rfl rfl rfl rfl (fun _ _ _ _ h => h) ?_ ?_ ?_ ?_ ?_
 rotate_left 2
 ·intro w' hg; have q := hg.cell z1 (fun h => h); go_simp; with_reducible rfl
 ·simp only [Act.put, pB, pC, pD]; rfl
 refine ord_pure rfl rfl rfl rfl rfl (fun _ _ _ _ h => h) ?_ ?_ ?_ ?_ ?_
 rotate_left 2
 ·intro w'; go_simp; with_reducible rfl
 ·simp only [Act.put, pB, pC, pD]; rfl
 refine ord_read rfl rfl rfl rfl rfl (fun _ _ _ _ h => h) ?_ ?_ ?_ ?_ ?_
 rotate_left 2
 ·intro w' hg; have q := hg.cell z6 (fun h => h); go_simp; with_reducible rfl
 ·simp only [Act.put, pB, pC, pD]; rfl
 refine ord_call rfl rfl rfl rfl rfl Tryz.func128 rfl rfl [.int .i64 p.off, .int .i64 29] rfl ?_
 refine (rlow_calls p.off 29 _ (by omega)).mono ?_
 rintro e w' ⟨rfl, rfl⟩
 refine ⟨_, rfl, fun _ => Keep.refl _ _, ?_⟩
 simp only [Act.put, pB, pC, pD]
 iterate 2
  refine ord_pure rfl rfl rfl rfl rfl (fun _ _ _ _ h => h) ?_ ?_ ?_ ?_ ?_
  rotate_left 2
  ·intro w'; go_simp; with_reducible rfl
  ·simp only [Act.put, pB, pC, pD]; rfl
 refine ord_call rfl rfl rfl rfl rfl Tryz.func128 rfl rfl [.int .i64 p.seg, .int .i64 32] rfl ?_
 refine (rlow_calls p.seg 32 _ (by omega)).mono ?_
 rintro e w' ⟨rfl, rfl⟩
 refine ⟨_, rfl, fun _ => Keep.refl _ _, ?_⟩
 simp only [Act.put, pB, pC, pD]
 iterate 2
  refine ord_pure rfl rfl rfl rfl rfl (fun _ _ _ _ h => h) ?_ ?_ ?_ ?_ ?_
  rotate_left 2
  ·intro w'; go_simp; with_reducible rfl
  ·simp only [Act.put, pB, pC, pD]; rfl
 refine ord_set rfl rfl rfl rfl ?_ ?_ ?_ ?_ ?_
 rotate_left 2
 ·go_simp; with_reducible rfl
 ·simp only [Act.put, pB, pC, pD]; rfl
 refine ord_nil ?_
 replace HG := LH HG.out.drew
 replace HC := LH (show w1.drew.heap[_]? = _ from HC.out)
 clear z0 z1 z2 z3 z4 z5 z6 z7 zf
 generalize w1.drew = w2 at HG HC ⊢
 have z7 := (cells8 HC.out).2.2.2.2.2.2.2.1
 rw [HDB.out] at z7
 go_wp2_with fail
 generalize hX : 2 + 8 * (IntKind.u64.wrap p.off % 536870912) + IntKind.u64.wrap p.seg % 4294967296 * 4294967296 + 4 = X
 have hxx : 0 ≤ X ∧ X ≤ 18446744073709551615 := by omega
 clear hX
 refine (rdec_calls _ _ (hxx).1 (hxx).2).mono ?_
 rintro e w9 ⟨rfl, hg9⟩
 replace HG := LH (HG.out.grow hg9)
 replace HC := LH (Grow.heap hg9 HC.out)
 have HXB := LH (hxx)
 generalize ptrDec (X) = R at hg9 ⊢
 clear hg9
 obtain ⟨z0, z1, z2, z3, z4, z5, z6, z7, zf⟩ := cells8 HC.out
 have hlt9 := (gE HC.out).1
 have hne9 : w9.heap.size ≠ B := by omega
 have hne8 : B ≠ w9.heap.size := by omega
 go_wp2
 all_goals
  go_ret2
  refine ⟨_, _, rfl, ?_, ?_, HG.out.alloc _⟩ <;> first | exact HXB.out.1 | exact HXB.out.2 | omega
theorem renc_calls (p : Pt) (w : World) : Calls Tryz.prog 58 #[.agg #[.int .i64 p.kind, .int .i64 p.off, .int .i64 p.data, .int .i64 p.ptrs, .int .i64 p.size, .int .i64 p.count, .int .i64 p.seg, .bool p.dbl]] w (EncPost w) := by
 by_cases h1 : p.kind = 1
 ·exact renc_struct p w h1
 by_cases h2 : p.kind = 2
 ·exact renc_list p w h2
 by_cases h3 : p.kind = 3
 ·rcases hd : p.dbl with _ | _
  ·have := renc_far0 p w ⟨h3, hd⟩; rwa [hd] at this
  ·have := renc_far1 p w ⟨h3, hd⟩; rwa [hd] at this
 exact renc_none p w ⟨h1, h2, h3⟩
theorem info_words : (Tryz.prog.info? 111).map (fun i => (i.zero, i.size, i.bytes)) = some (some (.slice none 0 0), 1, 24) := by kernel_rfl
theorem u_words : Tryz.prog.underlying 111 = some (.slice 22) := by kernel_rfl
theorem u_arena : Tryz.prog.underlying 29 = some (.slice 111) := by kernel_rfl
def HdR (a : List (List Int)) (vs : List Value) (w : World) : Prop := vs.length = a.length ∧ ∀ i (h : i < a.length), ∃ A c, vs[i]? = some (.slice A a[i].length c) ∧ SliceR 1 (.slice A a[i].length c) a[i].length (u64s a[i]) w
theorem HdR.grow {a : List (List Int)} {vs : List Value} {w w' : World} (h : HdR a vs w) (hg : Grow w w') : HdR a vs w' := ⟨h.1, fun i hi => by
 obtain ⟨A, c, h1, h2⟩ := h.2 i hi
 exact ⟨A, c, h1, h2.grow hg⟩⟩
theorem HdR.one {a : List (List Int)} {vs : List Value} {w : World} (h : HdR a vs w) : ∀ u ∈ vs, u.oneCell' = true := fun u hu => by
 obtain ⟨i, hi, rfl⟩ := List.getElem_of_mem hu
 obtain ⟨A, c, h1, _⟩ := h.2 i (by have := h.1; omega)
 rw [List.getElem?_eq_getElem hi] at h1
 injection h1 with h1
 rw [h1]; rfl
theorem RowsR.heads {a : List (List Int)} {A : Option Addr} {c : Nat} {w : World} (h : RowsR .u64 a (.slice A a.length c) w) : ∃ vs, HdR a vs w ∧ ∀ j u, vs[j]? = some u → ∃ ad, A = some ad ∧ w.cell? (ad.add j) = some u := by
 have hq : ∀ n, n ≤ a.length → ∃ vs : List Value, vs.length = n ∧ ∀ i (hi : i < n), ∃ ad A' c', A = some ad ∧ vs[i]? = some (.slice A' (a.getD i []).length c') ∧ w.cell? (ad.add i) = some (.slice A' (a.getD i []).length c') ∧ SliceR 1 (.slice A' (a.getD i []).length c') (a.getD i []).length (u64s (a.getD i [])) w := by
  intro n
  induction n with
  | zero => exact fun _ => ⟨[], rfl, fun i hi => by omega⟩
  | succ n ih =>
   intro hn
   obtain ⟨vs, hl, hv⟩ := ih (by omega)
   obtain ⟨ad, A', c', h1, h2, h3⟩ := RowsR.at_ h n (by omega)
   have hg : a.getD n [] = a[n] := by simp [show n < a.length by omega]
   refine ⟨vs ++ [.slice A' a[n].length c'], by simp [hl], fun i hi => ?_⟩
   by_cases hin : i < n
   ·obtain ⟨ad2, A2, c2, k1, k2, k3, k4⟩ := hv i hin
    exact ⟨ad2, A2, c2, k1, by rw [List.getElem?_append_left (by omega)]; exact k2, k3, k4⟩
   ·obtain rfl : i = n := by omega
    rw [hg]
    exact ⟨ad, A', c', h1, by rw [List.getElem?_append_right (by omega)]; simp [hl], h2, h3⟩
 obtain ⟨vs, hl, hv⟩ := hq a.length (Nat.le_refl _)
 refine ⟨vs, ⟨hl, fun i hi => ?_⟩, fun j u hu => ?_⟩
 ·obtain ⟨ad, A', c', k1, k2, k3, k4⟩ := hv i hi
  have hg : a.getD i [] = a[i] := by simp [hi]
  rw [hg] at k2 k4
  exact ⟨A', c', k2, k4⟩
 ·have hj : j < a.length := by have := (List.getElem?_eq_some_iff.1 hu).1; omega
  obtain ⟨ad, A', c', k1, k2, k3, k4⟩ := hv j hj
  rw [k2] at hu
  injection hu with hu
  exact ⟨ad, k1, by rw [k3, hu]⟩
theorem RowsR.of_own {base : Nat} {a : List (List Int)} {vs : List Value} {A : Option Addr} {c : Nat} {w : World} (ho : w.ownsRow base 111 1 (.slice A a.length c) a.length vs) (h : HdR a vs w) : RowsR .u64 a (.slice A a.length c) w := by
 obtain ⟨A9, c9, e9, _, _, _, hcs⟩ := SliceR.of_own ho
 injection e9 with e9
 refine ⟨A, c, rfl, fun i hi => ?_⟩
 obtain ⟨A', c', h1, h2⟩ := h.2 i hi
 obtain ⟨ad, had, hc⟩ := hcs i _ h1
 exact ⟨ad, A', c', e9.trans had, hc, h2⟩
theorem RowsR.src {a : List (List Int)} {vs : List Value} {A : Option Addr} {c : Nat} {w : World} (h : HdR a vs w) (hc : ∀ j u, vs[j]? = some u → ∃ ad, A = some ad ∧ w.cell? (ad.add j) = some u) : Src Tryz.prog 1 29 (.slice A a.length c) a.length vs w := by
 cases A with
 | none =>
  have h0 : vs = [] := by
   cases vs with
   | nil => rfl
   | cons x r => obtain ⟨ad, e, _⟩ := hc 0 x rfl; cases e
  have h1 := h.1
  rw [h0] at h1 ⊢
  have h2 : a.length = 0 := h1.symm
  rw [h2]
  exact Src.ofNil w u_arena c
 | some ad =>
  refine Src.ofSlice w u_arena ad a.length c vs (by rw [h.1, Nat.mul_one]) (fun j u hu => ?_) h.one
  obtain ⟨ad', e, hc'⟩ := hc j u hu
  injection e with e
  rw [e]; exact hc'
theorem RowsR.of_slice {a : List (List Int)} {vs : List Value} {A : Option Addr} {c : Nat} {w : World} (ho : SliceR 1 (.slice A a.length c) a.length vs w) (h : HdR a vs w) : RowsR .u64 a (.slice A a.length c) w := by
 obtain ⟨A9, c9, e9, _, _, _, hcs⟩ := ho
 injection e9 with e9
 refine ⟨A, c, rfl, fun i hi => ?_⟩
 obtain ⟨A', c', h1, h2⟩ := h.2 i hi
 obtain ⟨ad, had, hc⟩ := hcs i _ h1
 exact ⟨ad, A', c', e9.trans had, hc, h2⟩
def NewF (F : Nat → Prop) (w w' : World) (k : Nat) : Prop := F k ∨ (w.heap.size ≤ k ∧ k < w'.heap.size)
theorem RowsR.headsF {a : List (List Int)} {A : Option Addr} {c : Nat} {w : World} {F : Nat → Prop} (h : Foot (RowsR .u64 a (.slice A a.length c)) w F) : ∃ vs, Foot (HdR a vs) w F ∧ ∀ j u, vs[j]? = some u → ∃ ad, A = some ad ∧ w.cell? (ad.add j) = some u := by
 obtain ⟨vs, hv, hc⟩ := h.now.heads
 refine ⟨vs, ⟨h.1, fun W' hW => ⟨hv.1, fun i hi => ?_⟩⟩, hc⟩
 obtain ⟨A0, c0, h1, _⟩ := hv.2 i hi
 obtain ⟨ad, hA, hcell⟩ := hc i _ h1
 have hm : F (ad.add i).block := Foot.cell_mem (p := ad.add i) h (fun W2 h2 => by
  obtain ⟨ad2, A2, c2, e2, k2, _⟩ := RowsR.at_ h2 i hi
  rw [hA] at e2
  injection e2 with e2
  subst e2
  exact ⟨_, k2⟩)
 obtain ⟨ad2, A2, c2, e2, k2, k3⟩ := RowsR.at_ (h.2 W' hW) i hi
 rw [hA] at e2
 injection e2 with e2
 subst e2
 have he : W'.cell? (ad.add i) = w.cell? (ad.add i) := by unfold World.cell?; rw [hW _ hm]
 rw [he, hcell] at k2
 injection k2 with k2
 exact ⟨A2, c2, by rw [h1, k2], k3⟩
theorem HdR.set {a : List (List Int)} {vs : List Value} {w : World} (h : HdR a vs w) (i : Nat) (hi : i < a.length) (s : List Int) (A : Option Addr) (c : Nat) (hs : SliceR 1 (.slice A s.length c) s.length (u64s s) w) : HdR (a.set i s) (vs.set i (.slice A s.length c)) w := by
 refine ⟨by rw [List.length_set, List.length_set]; exact h.1, fun j hj => ?_⟩
 rw [List.length_set] at hj
 by_cases e : i = j
 ·subst e
  have h1 := h.1
  exact ⟨A, c, by rw [List.getElem?_set_self (by omega)]; simp, by simpa using hs⟩
 ·obtain ⟨A', c', k1, k2⟩ := h.2 j hj
  exact ⟨A', c', by rw [List.getElem?_set_ne e]; simpa [List.getElem_set_ne e] using k1, by simpa [List.getElem_set_ne e] using k2⟩
theorem u64s_set (l : List Int) (i : Nat) (x : Int) : (u64s l).set i (.int .u64 x) = u64s (l.set i x) := by
 unfold u64s; exact List.map_set.symm
theorem rset_calls (a : List (List Int)) (A : Option Addr) (c : Nat) (size : Int) (full : Bool) (seg i : Nat) (x : Int) (hs : seg < a.length) (hi : i < a[seg].length) (hla : a.length ≤ 1000000) (hls : a[seg].length ≤ 1000000) (w : World) {F : Nat → Prop} (hF : Foot (RowsR .u64 a (.slice A a.length c)) w F) :
    Calls Tryz.prog 194 #[.agg #[.slice A a.length c, .int .i64 size, .bool full], .int .i64 seg, .int .i64 i, .int .u64 x] w fun e w' => ∃ A' c', e = .returned (.agg #[.slice A' a.length c', .int .i64 size, .bool full]) ∧ Grow w w' ∧ Foot (RowsR .u64 (a.set seg (a[seg].set i x)) (.slice A' a.length c')) w' (NewF F w w') := by
 obtain ⟨vs, hvF, hcs⟩ := RowsR.headsF hF
 have hvs := hvF.now
 have HVF := LH hvF
 have hh := heap_two w (.cells #[.slice A a.length c, .int .i64 size, .bool full] 197) (.cells #[.slice none 0 0, .int .i64 0, .bool false] 197)
 have HB0 := LH hh.1
 have HB1 := LH hh.2.1
 have HG := LH hh.2.2
 have HV := LH hvs
 have HCS := LH hcs
 have hlt' : (seg : Int) < a.length := by omega
 have hit' : (i : Int) < a[seg].length := by omega
 obtain ⟨A1, c1, hv1, hsl⟩ := hvs.2 seg hs
 have HSL := LH hsl
 have HV1 := LH hv1
 obtain ⟨n, hn⟩ : ∃ n, a.length = n := ⟨_, rfl⟩
 obtain ⟨m, hm⟩ : ∃ m, a[seg].length = m := ⟨_, rfl⟩
 have HN := LH hn
 have HM := LH hm
 have HSRC := LH (RowsR.src (c := c) (hvs.grow hh.2.2) (fun j u hu => by
  obtain ⟨ad, e1, e2⟩ := hcs j u hu
  exact ⟨ad, e1, hh.2.2.cell e2 (fun h => h)⟩))
 rw [hn] at HB0 HB1 HG HSRC hla hlt' ⊢
 rw [hm] at hls hit'
 clear hF hvF hh hvs hcs hsl hv1 hn hm
 go_enter Tryz.func194, Tryz.ntmps194
 go_wp2_with (at_builtin; refine wpList_app _ rfl _ _ 29 29 rfl w.heap.size 111 (.slice none 0 0) 1 24 u_arena info_words rfl (.slice none 0 0) 0 [] rfl (.slice A n c) n vs rfl ?_ ?c0 ?c1 ?c2 ?c3 ?c4; intro v' w2 hap; refine Hid.out ?_)
 case c0 => exact World.ownsRow_nil _ _ _ _
 case c1 => exact HSRC.out
 case c2 => simp only [maxLen]; omega
 case c3 => omega
 case c4 => simp; omega
 refine LH ?_
 have ho := hap.own
 simp only [Nat.zero_add, List.nil_append] at ho
 have hg2 := HG.out.grown hap.grew (by simp [Value.ownBlock])
 have hgx := (Keep.refl NoB ((w.alloc (.cells #[.slice A n c, .int .i64 size, .bool full] 197)).alloc (.cells #[.slice none 0 0, .int .i64 0, .bool false] 197))).grown hap.grew (by simp [Value.ownBlock])
 have hb0 := Grow.heap hgx HB0.out
 have hb1 := Grow.heap hgx HB1.out
 obtain ⟨r1, k1, e1, hr1, _, hcells1⟩ := own_cells ho (by omega)
 subst e1
 have hr1b := of_append hap r1 hr1
 have q1 : w2.cell? ⟨r1, seg, none⟩ = some (.slice A1 m c1) := by
  have := hcells1 seg _ HV1.out
  rw [HM.out] at this
  simpa using this
 have hr1n : w.heap.size + 2 ≤ r1 := by
  rcases hr1b with h | h
  ·simp [Value.ownBlock] at h
  ·have h2 : r1 = w.heap.size + 1 + 1 := by simpa using h
   omega
 have hsrc2 : Src Tryz.prog 1 111 (.slice A1 m c1) m (u64s a[seg]) w2 := by
  have := (HSL.out.grow hg2).src (tx := 111) u_words (u64s_one _)
  rw [HM.out] at this
  exact this
 have HS2 := LH hsrc2
 have HO := LH ho
 have HG2 := LH hg2
 have HB0' := LH hb0
 have HB1' := LH hb1
 clear hap ho hg2 hgx hb0 hb1 hcells1 hr1 hr1b hsrc2
 clear HSRC HB0 HB1 HG
 go_wp2_with (at_builtin; refine wpList_app _ rfl _ _ 111 111 rfl w2.heap.size 22 (.int .u64 0) 1 8 u_words info_u64 rfl (.slice none 0 0) 0 [] rfl (.slice A1 m c1) m (u64s a[seg]) rfl ?_ ?d0 ?d1 ?d2 ?d3 ?d4; intro v' w3 hap; refine Hid.out ?_)
 case d0 => exact World.ownsRow_nil _ _ _ _
 case d1 => exact HS2.out
 case d2 => simp only [maxLen]; omega
 case d3 => omega
 case d4 => simp
 refine LH ?_
 have ho := hap.own
 simp only [Nat.zero_add, List.nil_append] at ho
 have hgx := (Keep.refl NoB w2).grown hap.grew (by simp [Value.ownBlock])
 obtain ⟨r2, k2, e2, hr2, _, hcells2⟩ := own_cells ho (by omega)
 subst e2
 have hr2b : w2.heap.size ≤ r2 := (ho.lt r2 hr2).1
 have hr1l : r1 < w2.heap.size := (HO.out.lt r1 rfl).2
 have hl64 : (u64s a[seg]).length = m := by rw [← HM.out]; simp [u64s]
 obtain ⟨u0, q2⟩ : ∃ u0, w3.cell? ⟨r2, i, none⟩ = some u0 := ⟨_, by simpa using hcells2 i _ (List.getElem?_eq_getElem (by omega))⟩
 have q2f : w3.frozen? ⟨r2, i, none⟩ = false := ho.frozenAt _
 have hst2 := ho.stored i (.int .u64 x)
 rw [u64s_set] at hst2
 have hO3 := own_keep (own_keep HO.out hgx (fun _ _ h => h)) (keep_put r2 i w3 (.int .u64 x)) (fun k hk e => by cases hk; exact absurd e (show ¬ r1 = r2 by omega))
 have q3 : (w3.setCell ⟨r2, i, none⟩ (.int .u64 x)).cell? ⟨r1, seg, none⟩ = some (.slice A1 m c1) := (keep_put r2 i w3 (.int .u64 x)).cell (hgx.cell q1 (fun h => h)) (by show ¬ r1 = r2; omega)
 have q3f : (w3.setCell ⟨r2, i, none⟩ (.int .u64 x)).frozen? ⟨r1, seg, none⟩ = false := hO3.frozenAt _
 have hst1 := hO3.stored seg (.slice (some ⟨r2, 0, none⟩) m k2)
 have hs2' := own_keep hst2.1 (keep_put r1 seg _ (.slice (some ⟨r2, 0, none⟩) m k2)) (fun k hk e => by cases hk; exact absurd e (show ¬ r2 = r1 by omega))
 have HG4 : Hid (Grow w ((w3.setCell ⟨r2, i, none⟩ (.int .u64 x)).setCell ⟨r1, seg, none⟩ (.slice (some ⟨r2, 0, none⟩) m k2))) :=
  LH (((HG2.out.grow hgx).setCell (p := ⟨r2, i, none⟩) (.inr (by show w.heap.size ≤ r2; omega)) _).setCell (p := ⟨r1, seg, none⟩) (.inr (by show w.heap.size ≤ r1; omega)) _)
 have hK5 : Keep (fun k => k = w.heap.size ∨ k = w.heap.size + 1) ((w3.setCell ⟨r2, i, none⟩ (.int .u64 x)).setCell ⟨r1, seg, none⟩ (.slice (some ⟨r2, 0, none⟩) m k2)) ((((((w3.setCell ⟨r2, i, none⟩ (.int .u64 x)).setCell ⟨r1, seg, none⟩ (.slice (some ⟨r2, 0, none⟩) m k2)).setCell ⟨w.heap.size, 0, none⟩ (.slice (some ⟨r1, 0, none⟩) n k1)).setCell ⟨w.heap.size + 1, 0, none⟩ (.slice (some ⟨r1, 0, none⟩) n k1)).setCell ⟨w.heap.size + 1, 1, none⟩ (.int .i64 size)).setCell ⟨w.heap.size + 1, 2, none⟩ (.bool full)) :=
  ((((Keep.refl (fun k => k = w.heap.size ∨ k = w.heap.size + 1) ((w3.setCell ⟨r2, i, none⟩ (.int .u64 x)).setCell ⟨r1, seg, none⟩ (.slice (some ⟨r2, 0, none⟩) m k2))).setCell (p := ⟨w.heap.size, 0, none⟩) (.inl (.inl rfl)) _).setCell (p := ⟨w.heap.size + 1, 0, none⟩) (.inl (.inr rfl)) _).setCell (p := ⟨w.heap.size + 1, 1, none⟩) (.inl (.inr rfl)) _).setCell (p := ⟨w.heap.size + 1, 2, none⟩) (.inl (.inr rfl)) _
 have HG5 : Hid (Grow w ((((((w3.setCell ⟨r2, i, none⟩ (.int .u64 x)).setCell ⟨r1, seg, none⟩ (.slice (some ⟨r2, 0, none⟩) m k2)).setCell ⟨w.heap.size, 0, none⟩ (.slice (some ⟨r1, 0, none⟩) n k1)).setCell ⟨w.heap.size + 1, 0, none⟩ (.slice (some ⟨r1, 0, none⟩) n k1)).setCell ⟨w.heap.size + 1, 1, none⟩ (.int .i64 size)).setCell ⟨w.heap.size + 1, 2, none⟩ (.bool full))) := LH (HG4.out.trans hK5 (fun j hj => .inr (by omega)))
 have hz := cells3 (Grow.heap hgx HB0'.out)
 have hy := cells3 (Grow.heap hgx HB1'.out)
 obtain ⟨z0, z1, z2, zf⟩ := hz
 obtain ⟨y0, y1, y2, yf⟩ := hy
 have HRR : Hid (Foot (RowsR .u64 (a.set seg (a[seg].set i x)) (.slice (some ⟨r1, 0, none⟩) n k1)) ((((((w3.setCell ⟨r2, i, none⟩ (.int .u64 x)).setCell ⟨r1, seg, none⟩ (.slice (some ⟨r2, 0, none⟩) m k2)).setCell ⟨w.heap.size, 0, none⟩ (.slice (some ⟨r1, 0, none⟩) n k1)).setCell ⟨w.heap.size + 1, 0, none⟩ (.slice (some ⟨r1, 0, none⟩) n k1)).setCell ⟨w.heap.size + 1, 1, none⟩ (.int .i64 size)).setCell ⟨w.heap.size + 1, 2, none⟩ (.bool full)) (NewF F w ((((((w3.setCell ⟨r2, i, none⟩ (.int .u64 x)).setCell ⟨r1, seg, none⟩ (.slice (some ⟨r2, 0, none⟩) m k2)).setCell ⟨w.heap.size, 0, none⟩ (.slice (some ⟨r1, 0, none⟩) n k1)).setCell ⟨w.heap.size + 1, 0, none⟩ (.slice (some ⟨r1, 0, none⟩) n k1)).setCell ⟨w.heap.size + 1, 1, none⟩ (.int .i64 size)).setCell ⟨w.heap.size + 1, 2, none⟩ (.bool full)))) := by
  have hls2 : (a[seg].set i x).length = m := by rw [List.length_set]; exact HM.out
  have hla2 : (a.set seg (a[seg].set i x)).length = n := by rw [List.length_set]; exact HN.out
  have o2 := own_keep hs2' hK5 (fun k hk e => by cases hk; exact absurd e (show ¬ (r2 = w.heap.size ∨ r2 = w.heap.size + 1) by omega))
  have o1 := own_keep hst1.1 hK5 (fun k hk e => by cases hk; exact absurd e (show ¬ (r1 = w.heap.size ∨ r1 = w.heap.size + 1) by omega))
  have hl2 := (o2.lt r2 rfl).2
  have hl1 := (o1.lt r1 rfl).2
  refine LH ((((HVF.out.grow HG5.out).and ((Foot.of_own o1).and (Foot.of_own o2))).imp (fun W' hW => ?_)).mono (fun k hk => ?_) (fun k hk => ?_))
  ·have hsr : SliceR 1 (.slice (some ⟨r2, 0, none⟩) (a[seg].set i x).length k2) (a[seg].set i x).length (u64s (a[seg].set i x)) W' := by
     rw [hls2]
     exact hW.2.2
   have hd := hW.1.set seg hs (a[seg].set i x) _ k2 hsr
   have ho1 : SliceR 1 (.slice (some ⟨r1, 0, none⟩) (a.set seg (a[seg].set i x)).length k1) (a.set seg (a[seg].set i x)).length (vs.set seg (.slice (some ⟨r2, 0, none⟩) (a[seg].set i x).length k2)) W' := by
    rw [hls2, hla2]
    exact hW.2.1
   have := RowsR.of_slice ho1 hd
   rw [hla2] at this
   exact this
  ·rcases hk with h | h
   ·exact Nat.lt_of_lt_of_le (HVF.out.lt h) HG5.out.size
   ·exact h.2
  ·rcases hk with h | h | h
   ·exact .inl h
   ·cases h; exact .inr ⟨show w.heap.size ≤ r1 by omega, hl1⟩
   ·cases h; exact .inr ⟨show w.heap.size ≤ r2 by omega, hl2⟩
 have e1 : r1 ≠ w.heap.size := by omega
 have e2 : r2 ≠ w.heap.size := by omega
 have e3 : w.heap.size ≠ r1 := by omega
 have e4 : w.heap.size ≠ r2 := by omega
 have e5 : w.heap.size + 1 ≠ r1 := by omega
 have e6 : w.heap.size + 1 ≠ r2 := by omega
 clear hap ho hgx hcells2 hr2 hst2 hO3 hst1 hs2' hK5 HB0' HB1' HO hl64
 go_wp2
 refine bodyPost_ret (v := .agg #[.slice (some ⟨r1, 0, none⟩) n k1, .int .i64 size, .bool full]) ?_ rfl ⟨_, _, rfl, HG5.out, HRR.out⟩
 rw [results_cell1 rfl]; go_simp
theorem wcnt_succ (a : List (List Int)) (k : Nat) (h : k < a.length) : (a.take (k + 1)).flatten.length = (a.take k).flatten.length + a[k].length := by
 rw [List.take_succ_eq_append_getElem h, List.flatten_append, List.length_append]; simp only [List.flatten_cons, List.flatten_nil, List.append_nil]
theorem wcnt_le (a : List (List Int)) (B : Nat) (h : ∀ s ∈ a, s.length ≤ B) : a.flatten.length ≤ a.length * B := by
 induction a with
 | nil => simp
 | cons x r ih =>
  have h1 := h x (List.mem_cons_self ..)
  have h2 := ih (fun s hs => h s (List.mem_cons_of_mem _ hs))
  simp only [List.flatten_cons, List.length_append, List.length_cons, Nat.succ_mul]
  omega
theorem rwords7_calls (a : List (List Int)) (A : Option Addr) (c : Nat) (hl : a.length ≤ 1000) (hb : ∀ s ∈ a, s.length ≤ 1000000) (w : World) (hR : RowsR .u64 a (.slice A a.length c) w) :
    Calls Tryz.prog 241 #[.slice A a.length c] w fun e w' => e = .returned (.int .i64 (a.flatten.length : Nat)) ∧ w = w' := by
 have HR := LH hR
 have HB := LH hb
 clear hR hb
 go_enter Tryz.func241, Tryz.ntmps241
 go_wp2
 go_loop [3, 4] (fun s i => ∃ k : Nat, k ≤ a.length ∧ i = .int .i64 k ∧ s = .int .i64 ((a.take k).flatten.length : Nat)) (fun _ i => a.length - (intOf i).toNat)
 case atStart => exact ⟨0, by omega, rfl, by simp⟩
 case round =>
  obtain ⟨k, hk, rfl, rfl⟩ := hrel
  have hbb := wcnt_le (a.take k) 1000000 (fun s hs => HB.out s (List.mem_of_mem_take hs))
  have hbl : (a.take k).length ≤ 1000 := by simp; omega
  have hbm : (a.take k).length * 1000000 ≤ 1000 * 1000000 := Nat.mul_le_mul_right _ hbl
  obtain ⟨S, hS⟩ : ∃ S, (a.take k).flatten.length = S := ⟨_, rfl⟩
  rw [hS] at hbb ⊢
  by_cases hlt : k < a.length
  ·have hlt' : (k : Int) < a.length := by omega
   obtain ⟨ad, A', c', rfl, hcell, _⟩ := RowsR.at_ HR.out k hlt
   have hkb := HB.out _ (List.getElem_mem hlt)
   have HN : Hid ((a.take (k + 1)).flatten.length = S + a[k].length) := LH (by rw [wcnt_succ a k hlt, hS])
   obtain ⟨L, hL⟩ : ∃ L, a[k].length = L := ⟨_, rfl⟩
   rw [hL] at hcell hkb HN
   have hw : IntKind.i64.wrap ((k : Int) + 1) = (k : Int) + 1 := IntWalk.i64_in _ (by omega)
   have hw2 : IntKind.i64.wrap ((S : Int) + L) = (S : Int) + L := IntWalk.i64_in _ (by omega)
   clear hbb hbl hbm hS hL
   go_wp2
   go_round
   case rel => exact ⟨k + 1, by omega, by go_num, by rw [HN.out]; go_num⟩
   case measure => simp [intOf]; omega
  ·obtain rfl : k = a.length := by omega
   have hlt' : ¬ ((a.length : Int) < a.length) := by omega
   have HS := LH hS
   clear hbb hbl hbm hS
   go_wp2
   go_ret
   exact ⟨ret_i (by rw [← HS.out, List.take_length]; simp), rfl⟩
end Go.Proofs.YtfkcpaahdlkcdaaGreat

import Derived.Test.YtfkcpaahdlkcdaaGreatRRecvQuota07
import Derived.Test.YtfkcpaahdlkcdaaGreatRRecvQuota13
set_option linter.unusedSimpArgs false
set_option linter.unusedVariables false
set_option maxRecDepth 100000
set_option maxHeartbeats 16000000
namespace Go.Proofs.YtfkcpaahdlkcdaaGreat
open Go.RowKit
theorem putB_succ (x : Int) (s : Nat) : u8s (putB x (s + 1)) = u8s (putB x s) ++ [.int .u8 (x / 2 ^ (8 * s) % 256)] := by
 simp [putB, u8s, List.range_succ]
theorem pow8_succ (x : Int) (k : Nat) : x / 2 ^ (8 * (k + 1)) = x / 2 ^ (8 * k) / 256 := by
 rw [show 8 * (k + 1) = 8 * k + 8 from by omega, Int.pow_add, ← Int.ediv_ediv_of_nonneg (by exact_mod_cast Nat.zero_le _)]
 rfl
theorem rput_calls (x : Int) (s : Nat) (w : World) (hx0 : 0 ≤ x) (hx1 : x ≤ 18446744073709551615) (hs : s ≤ 8) :
    Calls Tryz.prog 71 #[.int .u64 x, .int .i64 s] w fun e w' => ∃ A c, e = .returned (.slice A (putB x s).length c) ∧ Grow w w' ∧ w'.ownsRow w.heap.size 5 1 (.slice A (putB x s).length c) (putB x s).length (u8s (putB x s)) := by
 rw [putB_length]
 have HX := LH (And.intro hx0 hx1)
 clear hx0 hx1
 go_enter Tryz.func71, Tryz.ntmps71
 go_wp2_with fail
 go_loopw [0, 5, 6] (fun v0 v5 v6 wr => ∃ (k : Nat) (A4 : Option Addr) (c4 : Nat) (y : Int), k ≤ s ∧ v6 = .int .i64 k ∧ v5 = .slice A4 k c4 ∧ v0 = .int .u64 y ∧ y = x / 2 ^ (8 * k) ∧ 0 ≤ y ∧ y ≤ 18446744073709551615 ∧ Hid (Grow w wr ∧ wr.ownsRow w.heap.size 5 1 (.slice A4 k c4) k (u8s (putB x k)))) (fun _ _ v _ => s - (intOf v).toNat)
 case atStart => exact ⟨0, none, 0, x, by omega, rfl, rfl, rfl, by simp, HX.out.1, HX.out.2, Keep.refl _ _, World.ownsRow_nil _ w.heap.size 5 1⟩
 case round =>
  obtain ⟨k, A4, c4, y, hk, rfl, rfl, rfl, hy, y0, y1, HS⟩ := hrel
  have HY := LH hy
  clear hy
  by_cases hlt : k < s
  ·have hw : IntKind.i64.wrap ((k : Int) + 1) = (k : Int) + 1 := IntWalk.i64_in _ (by omega)
   have hlt' : (k : Int) < (s : Int) := by omega
   have hlt8 : (k : Int) < 8 := by omega
   have hy2 : 0 ≤ y % 256 := by omega
   have hy3 : y % 256 ≤ 255 := by omega
   have E1 := LH (putB_succ x k)
   have hgb := HS.out.1.size
   have HGB := LH hgb
   clear hgb
   go_wp2_with (at_builtin; refine wpList_app _ rfl _ _ 23 23 rfl w.heap.size 5 (.int .u8 0) 1 1 u_bytes info_u8 rfl (.slice A4 k c4) k (u8s (putB x k)) rfl (.slice (some ⟨wr.heap.size, 0, none⟩) 1 1) 1 [.int .u8 (y % 256)] rfl ?_ (by exact own_keep HS.out.2 ((Keep.refl NoB wr).alloc _) (fun _ _ h => h)) (by exact Src.ofSlice _ u_bytes ⟨wr.heap.size, 0, none⟩ 1 1 _ rfl (World.news_of_block (cs := #[.int .u8 (y % 256)]) (t := 5) (fr := (0, 0)) (heap_alloc_new wr _)) (by simp [Value.oneCell'])) (by simp only [maxLen]; omega) (by omega) (by have := HGB.out; simp; omega); intro v3 w3 hap; refine Hid.out ?_)
   refine LH ?_
   have Hg3 : Hid (Grow w w3) := LH (((((HS.out.1.mono (T := fun k => w.heap.size ≤ k) (fun _ h => h.elim)).alloc _).grown hap.grew (fun k hk => .inl (HS.out.2.lt k hk).1))).new (fun _ h => h))
   have Ho3 := LH hap.own
   obtain ⟨A6, c6, rfl, _⟩ := own_slice hap.own
   clear hap
   rw [HY.out, ← E1.out] at Ho3
   go_wp2
   go_roundw
   case rel =>
    refine ⟨k + 1, A6, c6, y / 256, by omega, by go_num, rfl, rfl, ?_, by omega, by omega, Hg3.out, Ho3.out⟩
    rw [pow8_succ, HY.out]
   case measure => simp [intOf]; omega
  ·obtain rfl : k = s := by omega
   have hlt' : ¬ ((k : Int) < (k : Int)) := by omega
   go_wp2
   go_ret
   exact ⟨A4, c4, rfl, HS.out.1, HS.out.2⟩
theorem poly_mod (a b : Nat) : 2197175160 * ((a ^^^ b) % 2) = (2197175160 * (a % 2)) ^^^ (2197175160 * (b % 2)) := by
 have h : (a ^^^ b) % 2 = (a % 2) ^^^ (b % 2) := Nat.xor_mod_two_pow (n := 1)
 rcases Nat.mod_two_eq_zero_or_one a with ha | ha <;> rcases Nat.mod_two_eq_zero_or_one b with hb | hb
 ·rw [h, ha, hb]; rfl
 ·rw [h, ha, hb]; rfl
 ·rw [h, ha, hb]; rfl
 ·rw [h, ha, hb, Nat.xor_self]; decide
theorem stepN_xor (a b : Nat) : stepN (a ^^^ b) = stepN a ^^^ stepN b := by
 unfold stepN
 rw [poly_mod, Nat.xor_div_two]
 ac_rfl
theorem stepsN_xor (a b : Nat) : ∀ k, stepsN k (a ^^^ b) = stepsN k a ^^^ stepsN k b
 | 0 => rfl
 | k + 1 => by
  unfold stepsN
  rw [stepsN_xor a b k, stepN_xor]
theorem stepN_two (m : Nat) : stepN (2 * m) = m := by
 unfold stepN
 rw [show 2 * m / 2 = m from by omega, show 2 * m % 2 = 0 from by omega]
 simp
theorem stepsN_eight (m : Nat) : stepsN 8 (256 * m) = m := by
 rw [show 256 * m = 2 * (2 * (2 * (2 * (2 * (2 * (2 * (2 * m))))))) from by omega]
 simp only [stepsN, stepN_two]
theorem split8 (n : Nat) : (256 * (n / 256)) ^^^ (n % 256) = n := by
 apply Nat.eq_of_testBit_eq
 intro i
 rw [Nat.testBit_xor, show (256 : Nat) = 2 ^ 8 from rfl, Nat.testBit_two_pow_mul, Nat.testBit_mod_two_pow, Nat.testBit_div_two_pow]
 by_cases h : i < 8
 ·have h2 : ¬ (8 ≤ i) := by omega
  simp [h, h2]
 ·have h2 : 8 ≤ i := by omega
  simp [h, h2]
theorem byte_eq (n c : Nat) : stepsN 8 (n ^^^ c) = (n / 256) ^^^ stepsN 8 ((n % 256) ^^^ c) := by
 conv => lhs; rw [← split8 n]
 rw [Nat.xor_assoc, stepsN_xor, stepsN_eight]
def rcrcN (n : Nat) (bs : List Int) : Nat := bs.foldl (fun n c => stepsN 8 (n ^^^ c.toNat)) n
theorem rcrcN_snoc (n : Nat) (bs : List Int) (c : Int) : rcrcN n (bs ++ [c]) = stepsN 8 (rcrcN n bs ^^^ c.toNat) := by simp [rcrcN]
theorem rcrcN_eq (n : Nat) (bs : List Int) : rcrcN n bs = crcN n bs := by
 induction bs generalizing n with
 | nil => rfl
 | cons c bs ih =>
  show rcrcN (stepsN 8 (n ^^^ c.toNat)) bs = crcN ((n / 256) ^^^ stepsN 8 ((n % 256) ^^^ c.toNat)) bs
  rw [byte_eq]
  exact ih _
theorem rstep_nat (n : Nat) (w : World) (h : n < 4294967296) : Calls Tryz.prog 209 #[.int .u32 n] w fun e w' => e = .returned (.int .u32 (stepN n : Nat)) ∧ w = w' := by
 have h0 : (0 : Int) ≤ n := by omega
 have h1 : (n : Int) ≤ 4294967295 := by omega
 rcases Nat.mod_two_eq_zero_or_one n with hm | hm
 ·have hb : ((n : Int) % 2 == 1) = false := beq_eq_false_iff_ne.2 (by omega)
  have E : Hid ((n : Int) / 2 = ((stepN n : Nat) : Int)) := LH (by unfold stepN; rw [hm]; simp)
  go_enter Tryz.func209, Tryz.ntmps209
  go_wp2
  go_ret
  rw [← E.out]
  exact ⟨rfl, rfl⟩
 ·have hb : ((n : Int) % 2 == 1) = true := beq_iff_eq.2 (by omega)
  have E : Hid (bits .xor .u32 ((n : Int) / 2) 2197175160 = ((stepN n : Nat) : Int)) := LH (by
   have := u32_xor_nat (n / 2) 2197175160 (by omega) (by decide)
   rw [show ((n / 2 : Nat) : Int) = (n : Int) / 2 from by omega] at this
   unfold stepN; rw [hm]
   exact this)
  go_enter Tryz.func209, Tryz.ntmps209
  go_wp2
  go_ret
  rw [← E.out]
  exact ⟨rfl, rfl⟩
theorem rcmore_calls (n : Nat) (hn : n < 4294967296) (bs : List Int) (hbig : bs.length ≤ 1000000000) (hb : ∀ c ∈ bs, 0 ≤ c ∧ c ≤ 255) (A : Option Addr) (c : Nat) (w : World) (h : SliceR 1 (.slice A bs.length c) bs.length (u8s bs) w) :
    Calls Tryz.prog 145 #[.int .u32 n, .slice A bs.length c] w fun e w' => e = .returned (.int .u32 (moreN n bs : Nat)) ∧ w = w' := by
 have HB := LH hb
 have H := LH h
 clear hb h
 have h0 : (0 : Int) ≤ n := by omega
 have h1 : (n : Int) ≤ 4294967295 := by omega
 have hnx : bits .xor .u32 (n : Int) 4294967295 = ((4294967295 ^^^ n : Nat) : Int) := by
  rw [Nat.xor_comm]; exact u32_xor_nat n 4294967295 hn (by decide)
 have hlm := not_lt' hn
 have E0 : Hid (moreN n bs = rcrcN (4294967295 ^^^ n) bs ^^^ 4294967295) := LH (by unfold moreN; rw [rcrcN_eq, Nat.xor_comm])
 generalize 4294967295 ^^^ n = n0 at *
 go_enter Tryz.func145, Tryz.ntmps145
 go_wp2
 clear hnx
 go_loopw [0, 5, 6] (fun vn v v6 wr => wr = w ∧ ∃ k : Nat, k ≤ bs.length ∧ v = .int .i64 k ∧ vn = .int .u32 (rcrcN n0 (bs.take k) : Nat)) (fun _ v _ _ => bs.length - (intOf v).toNat)
 case atStart => exact ⟨rfl, 0, by omega, rfl, by simp [rcrcN]⟩
 case round =>
  obtain ⟨rfl, k, hk, rfl, rfl⟩ := hrel
  have hlt2 : rcrcN n0 (bs.take k) < 4294967296 := by rw [rcrcN_eq]; exact crcN_lt (fun x hx => HB.out x (List.mem_of_mem_take hx)) hlm
  by_cases hlt : k < bs.length
  ·have hlt' : (k : Int) < bs.length := by omega
   have hbl : bs.length ≤ 1000000000 := hbig
   have hw : IntKind.i64.wrap ((k : Int) + 1) = (k : Int) + 1 := IntWalk.i64_in _ (by omega)
   obtain ⟨ad, rfl, q1⟩ := SliceR.int_at (k := .u8) H.out k hlt
   have hc := HB.out _ (List.getElem_mem hlt)
   have hc0 := hc.1
   have hc1 := hc.2
   have Hsn : Hid (rcrcN n0 (bs.take (k + 1)) = stepsN 8 (rcrcN n0 (bs.take k) ^^^ bs[k].toNat)) := LH (by rw [List.take_succ_eq_append_getElem hlt, rcrcN_snoc])
   generalize rcrcN n0 (bs.take k) = m at *
   have hx32 : bits .xor .u32 (m : Int) bs[k] = ((m ^^^ bs[k].toNat : Nat) : Int) := by
    have := u32_xor_nat m bs[k].toNat hlt2 (by omega)
    rwa [show ((bs[k].toNat : Nat) : Int) = bs[k] from by omega] at this
   have hlt3 : m ^^^ bs[k].toNat < 4294967296 := Nat.xor_lt_two_pow (n := 32) hlt2 (by omega)
   generalize m ^^^ bs[k].toNat = ix at *
   go_wp2_with fail
   go_loopw [0, 6] (fun vn v wr2 => wr2 = wr ∧ ∃ i : Nat, i ≤ 8 ∧ v = .int .i64 i ∧ vn = .int .u32 (stepsN i ix : Nat)) (fun _ v _ => 8 - (intOf v).toNat)
   case atStart => exact ⟨rfl, 0, by omega, rfl, rfl⟩
   case round =>
    obtain ⟨rfl, i, hi, rfl, rfl⟩ := hrel
    have hs2 := stepsN_lt hlt3 i
    by_cases hilt : i < 8
    ·have hilt' : (i : Int) < 8 := by omega
     have hwi : IntKind.i64.wrap ((i : Int) + 1) = (i : Int) + 1 := IntWalk.i64_in _ (by omega)
     go_wp2_with fail
     refine (rstep_nat _ _ hs2).mono ?_
     rintro e w' ⟨rfl, rfl⟩
     go_wp2
     go_roundw
     case rel => exact ⟨trivial, i + 1, by omega, by go_num, rfl⟩
     case measure => simp [intOf]; omega
    ·obtain rfl : i = 8 := by omega
     go_wp2
     go_roundw
     case rel => exact ⟨trivial, k + 1, by omega, by go_num, by rw [Hsn.out]⟩
     case measure => simp [intOf]; omega
  ·obtain rfl : k = bs.length := by omega
   have hlt' : ¬ ((bs.length : Int) < bs.length) := by omega
   rw [List.take_length] at hlt2 ⊢
   have hnx : bits .xor .u32 ((rcrcN n0 bs : Nat) : Int) 4294967295 = ((rcrcN n0 bs ^^^ 4294967295 : Nat) : Int) := u32_xor_nat _ 4294967295 hlt2 (by decide)
   go_wp2
   go_ret
   exact ⟨by rw [E0.out]; rfl, rfl⟩
theorem rsum_calls (bs : List Int) (hbig : bs.length ≤ 1000000000) (hb : ∀ c ∈ bs, 0 ≤ c ∧ c ≤ 255) (A : Option Addr) (c : Nat) (w : World) (h : SliceR 1 (.slice A bs.length c) bs.length (u8s bs) w) :
    Calls Tryz.prog 73 #[.slice A bs.length c] w fun e w' => e = .returned (.int .u32 (moreN 0 bs : Nat)) ∧ w = w' := by
 have HM := LH (rcmore_calls 0 (by decide) bs hbig hb A c w h)
 clear h hb
 go_enter Tryz.func73, Tryz.ntmps73
 go_wp2_with fail
 refine HM.out.mono ?_
 rintro e w1 ⟨rfl, rfl⟩
 go_wp2
 go_ret
 exact ⟨rfl, rfl⟩
theorem rsizes_calls (a : List (List Int)) (A : Option Addr) (c : Nat) (w : World) (h : RowsR .u64 a (.slice A a.length c) w) (ha : a.length ≤ 100000) :
    Calls Tryz.prog 70 #[.slice A a.length c] w fun e w' => ∃ A c, e = .returned (.slice A (szs a).length c) ∧ Grow w w' ∧ w'.ownsRow w.heap.size 3 1 (.slice A (szs a).length c) (szs a).length (ints (szs a)) := by
 have H := LH h
 clear h
 go_enter Tryz.func70, Tryz.ntmps70
 go_wp2
 go_loopw [3, 4] (fun vo v wr => ∃ k : Nat, k ≤ a.length ∧ v = .int .i64 k ∧ ∃ A4 c4, vo = .slice A4 k c4 ∧ Hid (Grow w wr ∧ wr.ownsRow w.heap.size 3 1 (.slice A4 k c4) k (ints ((szs a).take k)))) (fun _ v _ => a.length - (intOf v).toNat)
 case atStart => exact ⟨0, by omega, rfl, none, 0, rfl, Keep.refl _ _, by simpa [ints] using World.ownsRow_nil w w.heap.size 3 1⟩
 case round =>
  obtain ⟨k, hk, rfl, A4, c4, rfl, HS⟩ := hrel
  by_cases hlt : k < a.length
  ·obtain ⟨ad, A', c', rfl, h2, _⟩ := (H.out.grow HS.out.1).at_ k hlt
   have hw : IntKind.i64.wrap ((k : Int) + 1) = (k : Int) + 1 := IntWalk.i64_in _ (by omega)
   have hlt' : (k : Int) < a.length := by omega
   have e1 : ints ((szs a).take (k + 1)) = ints ((szs a).take k) ++ [.int .i64 a[k].length] := by
    rw [List.take_succ_eq_append_getElem (by simpa [szs] using hlt)]
    simp [ints, szs]
   have E1 := LH e1
   clear e1
   go_wp2_with (at_builtin; refine wpList_app _ rfl _ _ 37 37 rfl w.heap.size 3 (.int .i64 0) 1 8 u_ints info_int rfl (.slice A4 k c4) k (ints ((szs a).take k)) rfl (.slice (some ⟨wr.heap.size, 0, none⟩) 1 1) 1 [.int .i64 a[k].length] rfl ?_ (by exact own_keep HS.out.2 ((Keep.refl NoB wr).alloc _) (fun _ _ h => h)) (by exact Src.ofSlice _ u_ints ⟨wr.heap.size, 0, none⟩ 1 1 _ rfl (World.news_of_block (cs := #[.int .i64 a[k].length]) (t := 3) (fr := (0, 0)) (heap_alloc_new wr _)) (by simp [Value.oneCell'])) (by simp only [maxLen]; omega) (by omega) (by have := HS.out.1.size; simp; omega); intro v2 w2 hap; refine Hid.out ?_)
   refine LH ?_
   have Hg2 : Hid (Grow w w2) := ((((HS.out.1.mono (T := fun k => w.heap.size ≤ k) (fun _ h => h.elim)).alloc _).grown hap.grew (fun k hk => .inl (HS.out.2.lt k hk).1))).new (fun _ h => h)
   have Ho2 := LH hap.own
   obtain ⟨A6, c6, rfl, _⟩ := own_slice hap.own
   clear hap
   rw [← E1.out] at Ho2
   go_wp2
   go_roundw
   case rel => exact ⟨k + 1, by omega, by go_num, A6, c6, rfl, Hg2.out, Ho2.out⟩
   case measure => simp [intOf]; omega
  ·obtain rfl : k = a.length := by omega
   have hlt' : ¬ ((a.length : Int) < a.length) := by omega
   go_wp2
   go_ret
   have ho := HS.out.2
   rw [← szs_length a, List.take_length] at ho
   exact ⟨A4, c4, by rw [szs_length]; rfl, HS.out.1, ho⟩
theorem take_succ_nn {l : List Int} (h0 : ∀ x ∈ l, 0 ≤ x) (k : Nat) (hk : k < l.length) : l[k] ≤ l.sum - (l.take k).sum := by
 have h1 := sum_take_succ hk
 have h2 := sum_take_le h0 (k + 1)
 omega
theorem rfits_true (A : Option Addr) (c : Nat) (l : List Int) (w : World) (h : SliceR 1 (.slice A l.length c) l.length (ints l) w) (hf : fitsB l = true) :
    Calls Tryz.prog 144 #[.slice A l.length c] w fun e w' => e = .returned (.bool true) ∧ w = w' := by
 have H := LH h
 obtain ⟨hl1, hl2, hnn, hsum⟩ := fits_parts hf
 have hx0 : 1 ≤ l[0] := by
  unfold fitsB at hf
  simp only [decide_eq_true_eq] at hf
  have := hf.2.2.1
  cases l with
  | nil => simp at hl1
  | cons x r => simpa using this
 have HN := LH hnn
 clear h hnn hf
 have h1 : ¬ ((l.length : Int) < 1) := by omega
 have h2 : ¬ ((16 : Int) < l.length) := by omega
 obtain ⟨ad, rfl, q0⟩ := SliceR.int_at (k := .i64) H.out 0 (by omega)
 have q0' : w.cell? ad = some (.int .i64 l[0]) := by simpa [Addr.add] using q0
 have hx : ¬ (l[0] < 1) := by omega
 clear q0
 go_enter Tryz.func144, Tryz.ntmps144
 go_wp2
 clear q0' hx hx0
 go_loopw [3, 4] (fun vn v wr => wr = w ∧ ∃ (k : Nat) (s : Int), k ≤ l.length ∧ v = .int .i64 k ∧ vn = .int .i64 s ∧ Hid (s = (l.take k).sum) ∧ 0 ≤ s ∧ s ≤ 4096) (fun _ v _ => l.length - (intOf v).toNat)
 case atStart => exact ⟨rfl, 0, 0, by omega, rfl, rfl, LH (by simp), by omega, by omega⟩
 case round =>
  obtain ⟨rfl, k, s, hk, rfl, rfl, HS, hs0, hs1⟩ := hrel
  by_cases hlt : k < l.length
  ·obtain ⟨ad2, e, q1⟩ := SliceR.int_at (k := .i64) H.out k hlt
   injection e with e
   subst e
   have hw : IntKind.i64.wrap ((k : Int) + 1) = (k : Int) + 1 := IntWalk.i64_in _ (by omega)
   have hlt' : (k : Int) < l.length := by omega
   have hsu := sum_take_succ hlt
   have hle := take_succ_nn HN.out k hlt
   have hn0 : 0 ≤ l[k] := HN.out _ (List.getElem_mem hlt)
   have hs9 := HS.out
   have hw2 : IntKind.i64.wrap (4096 - s) = 4096 - s := IntWalk.i64_in _ (by omega)
   have hw3 : IntKind.i64.wrap (s + l[k]) = s + l[k] := IntWalk.i64_in _ (by omega)
   have hb1 : ¬ (l[k] < 0) := by omega
   have hb2 : ¬ (4096 - s < l[k]) := by omega
   have HR : Hid (s + l[k] = (l.take (k + 1)).sum ∧ 0 ≤ s + l[k] ∧ s + l[k] ≤ 4096) := LH ⟨by omega, by omega, by omega⟩
   clear hsu hle hs9
   go_wp2
   go_roundw
   case rel => exact ⟨trivial, k + 1, s + l[k], by omega, by go_num, rfl, LH HR.out.1, HR.out.2.1, HR.out.2.2⟩
   case measure => simp [intOf]; omega
  ·obtain rfl : k = l.length := by omega
   have hlt' : ¬ ((l.length : Int) < l.length) := by omega
   go_wp2
   go_ret
   exact ⟨rfl, rfl⟩
theorem rright_true (a : List (List Int)) (A : Option Addr) (c : Nat) (w : World) (h : RowsR .u64 a (.slice A a.length c) w) (hf : fitsB (szs a) = true) :
    Calls Tryz.prog 69 #[.slice A a.length c] w fun e w' => e = .returned (.bool true) ∧ Grow w w' := by
 have hl := (fits_parts hf).2.1
 rw [szs_length] at hl
 have HS := LH (rsizes_calls a A c w h (by omega))
 have HF := LH hf
 clear h hf hl
 go_enter Tryz.func69, Tryz.ntmps69
 go_wp2_with fail
 refine HS.out.mono ?_
 rintro e w1 ⟨A1, c1, rfl, hg, ho⟩
 have HO := LH (SliceR.of_own ho)
 have HG := LH hg
 clear hg ho
 go_wp2_with fail
 refine (rfits_true A1 c1 (szs a) w1 HO.out HF.out).mono ?_
 rintro e w2 ⟨rfl, rfl⟩
 go_wp2
 go_ret
 exact ⟨rfl, HG.out⟩
def rB (ws : List Int) : List Int := ws.flatMap (fun x => putB x 8)
theorem rB_snoc (ws : List Int) (x : Int) : rB (ws ++ [x]) = rB ws ++ putB x 8 := by simp [rB]
theorem rB_length (ws : List Int) : (rB ws).length = 8 * ws.length := by
 induction ws with
 | nil => rfl
 | cons x r ih => simp [rB, putB_length] at ih ⊢; omega
theorem u8s_app (a b : List Int) : u8s (a ++ b) = u8s a ++ u8s b := by simp [u8s]
theorem rB_upto (ws : List Int) (hn : ∀ x ∈ ws, 0 ≤ x ∧ x ≤ 18446744073709551615) : ∀ k, k ≤ ws.length → bytesW (upto (fun k => (k, wat ws k)) k) = rB (ws.take k)
 | 0, _ => by simp [upto, bytesW, rB]
 | k + 1, h => by
  have hk : k < ws.length := by omega
  have hv : (wat ws k).1 = ws[k] := by
   have := hn _ (List.getElem_mem hk)
   unfold wat
   have e : ws[k]?.getD 0 = ws[k] := by rw [List.getElem?_eq_getElem hk]; rfl
   rw [e, dif_pos this]
  rw [upto_succ, List.take_succ_eq_append_getElem hk, rB_snoc, ← rB_upto ws hn k (by omega)]
  simp [bytesW, hv]
theorem arenaB_eq (a : List (List Int)) (ho : OkA a) : arenaB a = rB a.flatten := by
 unfold arenaB
 rw [rB_upto a.flatten (fun x hx => by
  obtain ⟨s, hs, h⟩ := List.mem_flatten.1 hx
  exact ho.nums s hs x h) _ (Nat.le_refl _), List.take_length]
theorem flat_take_len (a : List (List Int)) (i : Nat) (hi : i < a.length) (k : Nat) (hk : k ≤ a[i].length) : ((a.take i).flatten ++ a[i].take k).length ≤ a.flatten.length := by
 have h1 : (a.take (i + 1)).flatten.length ≤ a.flatten.length := by
  conv => rhs; rw [← List.take_append_drop (i + 1) a, List.flatten_append, List.length_append]
  omega
 rw [List.take_succ_eq_append_getElem hi, List.flatten_append, List.length_append] at h1
 have e : ([a[i]] : List (List Int)).flatten.length = a[i].length := by simp
 rw [e] at h1
 rw [List.length_append, List.length_take]
 omega
theorem rbytes_calls (a : List (List Int)) (ho : OkA a) (hfl : a.flatten.length ≤ 1000000) (A : Option Addr) (c : Nat) (w : World) (h : RowsR .u64 a (.slice A a.length c) w) :
    Calls Tryz.prog 72 #[.slice A a.length c] w fun e w' => ∃ A c, e = .returned (.slice A (rB a.flatten).length c) ∧ Grow w w' ∧ w'.ownsRow w.heap.size 5 1 (.slice A (rB a.flatten).length c) (rB a.flatten).length (u8s (rB a.flatten)) := by
 have H := LH h
 have HO := LH ho
 have HFL := LH hfl
 have hseg := ho.segs
 clear h ho hfl
 go_enter Tryz.func72, Tryz.ntmps72
 go_wp2
 go_loopw [3, 4, 5, 6] (fun vo v v5 v6 wr => ∃ i : Nat, i ≤ a.length ∧ v = .int .i64 i ∧ ∃ A4 c4, vo = .slice A4 (rB (a.take i).flatten).length c4 ∧ Hid (Grow w wr ∧ wr.ownsRow w.heap.size 5 1 (.slice A4 (rB (a.take i).flatten).length c4) (rB (a.take i).flatten).length (u8s (rB (a.take i).flatten)))) (fun _ v _ _ _ => a.length - (intOf v).toNat)
 case atStart => exact ⟨0, by omega, rfl, none, 0, by simp [rB], Keep.refl _ _, by simpa [rB, u8s] using World.ownsRow_nil w w.heap.size 5 1⟩
 case round =>
  obtain ⟨i, hi, rfl, A4, c4, rfl, HS⟩ := hrel
  by_cases hlt : i < a.length
  ·have hw : IntKind.i64.wrap ((i : Int) + 1) = (i : Int) + 1 := IntWalk.i64_in _ (by omega)
   have hlt' : (i : Int) < a.length := by omega
   go_wp2_with fail
   obtain ⟨wo, rfl⟩ : ∃ wo : World, wo = wr := ⟨_, rfl⟩
   go_loopw [3, 5, 6] (fun vo v v6 wr => ∃ k : Nat, k ≤ a[i].length ∧ v = .int .i64 k ∧ ∃ A4 c4 n, vo = .slice A4 n c4 ∧ Hid (n = (rB ((a.take i).flatten ++ a[i].take k)).length ∧ Grow w wr ∧ wr.ownsRow w.heap.size 5 1 (.slice A4 n c4) n (u8s (rB ((a.take i).flatten ++ a[i].take k))))) (fun _ v _ _ => a[i].length - (intOf v).toNat)
   case atStart => exact ⟨0, by omega, rfl, A4, c4, _, rfl, by simp, HS.out.1, by simpa using HS.out.2⟩
   case round =>
    obtain ⟨k, hk, rfl, A5, c5, n5, rfl, HS5⟩ := hrel
    obtain ⟨ad, A', c', rfl, h2, h3⟩ := (H.out.grow HS5.out.2.1).at_ i hlt
    have hwl : a[i].length ≤ 100000 := HO.out.words _ (List.getElem_mem hlt)
    have hn5 := HS5.out.1
    rw [rB_length] at hn5
    have hfk := flat_take_len a i hlt k hk
    have hn9 : n5 ≤ 8000000 := by have := HFL.out; omega
    by_cases hkl : k < a[i].length
    ·have hwk : IntKind.i64.wrap ((k : Int) + 1) = (k : Int) + 1 := IntWalk.i64_in _ (by omega)
     have hkl' : (k : Int) < a[i].length := by omega
     obtain ⟨ad2, rfl, q2⟩ := SliceR.int_at (k := .u64) h3 k hkl
     have hx := HO.out.nums _ (List.getElem_mem hlt) _ (List.getElem_mem hkl)
     have HX := LH hx
     have E1 : Hid (u8s (rB ((a.take i).flatten ++ a[i].take (k + 1))) = u8s (rB ((a.take i).flatten ++ a[i].take k)) ++ u8s (putB a[i][k] 8)) := LH (by
      rw [List.take_succ_eq_append_getElem hkl, ← List.append_assoc, rB_snoc, u8s_app])
     have E2 : Hid (n5 + 8 = (rB ((a.take i).flatten ++ a[i].take (k + 1))).length) := LH (by
      rw [rB_length, List.take_succ_eq_append_getElem hkl, ← List.append_assoc, List.length_append]
      simp only [List.length_singleton]
      omega)
     clear hx hn5 hfk h3
     go_wp2_with fail
     refine (rput_calls a[i][k] 8 wr HX.out.1 HX.out.2 (Nat.le_refl _)).mono ?_
     rintro e w2 ⟨A6, c6, rfl, hg2, ho2⟩
     rw [putB_length] at ho2
     have HG2 := LH (HS5.out.2.1.grow hg2)
     have HO5 := LH (own_keep HS5.out.2.2 hg2 (fun _ _ h => h))
     have HO2 := LH (SliceR.of_own ho2)
     rw [putB_length]
     clear hg2 ho2
     go_wp2_with (at_builtin; refine wpList_app _ rfl _ _ 23 23 rfl w.heap.size 5 (.int .u8 0) 1 1 u_bytes info_u8 rfl (.slice A5 n5 c5) n5 (u8s (rB ((a.take i).flatten ++ a[i].take k))) rfl (.slice A6 8 c6) 8 (u8s (putB a[i][k] 8)) rfl ?_ (by exact HO5.out) (by exact SliceR.src HO2.out u_bytes (u8s_one _)) (by simp only [maxLen]; omega) (by omega) (by exact HG2.out.size); intro v3 w3 hap; refine Hid.out ?_)
     refine LH ?_
     have Hg3 : Hid (Grow w w3) := LH (((HG2.out.mono (T := fun k => w.heap.size ≤ k) (fun _ h => h.elim)).grown hap.grew (fun k hk => .inl (HO5.out.lt k hk).1)).new (fun _ h => h))
     have Ho3 := LH hap.own
     obtain ⟨A7, c7, rfl, _⟩ := own_slice hap.own
     clear hap
     rw [← E1.out] at Ho3
     go_wp2
     go_roundw
     case rel => exact ⟨k + 1, by omega, by go_num, A7, c7, _, rfl, E2.out, Hg3.out, Ho3.out⟩
     case measure => simp [intOf]; omega
    ·obtain rfl : k = a[i].length := by omega
     have hkl' : ¬ ((a[i].length : Int) < a[i].length) := by omega
     have HF : Hid (n5 = (rB (a.take (i + 1)).flatten).length ∧ u8s (rB ((a.take i).flatten ++ a[i].take a[i].length)) = u8s (rB (a.take (i + 1)).flatten)) := LH (by
      have e : (a.take (i + 1)).flatten = (a.take i).flatten ++ a[i].take a[i].length := by
       rw [List.take_succ_eq_append_getElem hlt, List.flatten_append, List.take_length]; simp
      rw [e]
      exact ⟨HS5.out.1, rfl⟩)
     have HO5 := LH HS5.out.2.2
     have HG5 := LH HS5.out.2.1
     rw [HF.out.2, HF.out.1] at HO5
     clear hn5 hfk h3
     go_wp2
     go_roundw
     case rel => exact ⟨i + 1, by omega, by go_num, A5, c5, by rw [HF.out.1], HG5.out, HO5.out⟩
     case measure => simp [intOf]; omega
  ·obtain rfl : i = a.length := by omega
   have hlt' : ¬ ((a.length : Int) < a.length) := by omega
   rw [List.take_length] at HS ⊢
   go_wp2
   go_ret
   exact ⟨A4, c4, rfl, HS.out.1, HS.out.2⟩
structure OfR (w : World) (B6 : Nat) (session : Int) (zs : List Int) (A3 : Option Addr) (c3 : Nat) (F : Nat → Prop) (c : World) : Prop where
 grow : Grow w c
 z : c.heap[w.heap.size]? = some (.cells #[.int .u64 0, .slice none 0 0, .int .u32 0] 40 (0, 0))
 m : c.heap[B6]? = some (.cells #[.int .u64 session, .slice A3 zs.length c3, .int .u32 0] 40 (0, 0))
 s : Foot (SliceR 1 (.slice A3 zs.length c3) zs.length (ints zs)) c F
 hF : ∀ k, F k → k < B6
 lo : w.heap.size < B6
theorem OfR.keep {w : World} {B6 : Nat} {session : Int} {zs : List Int} {A3 : Option Addr} {c3 : Nat} {F : Nat → Prop} {c c' : World} (h : OfR w B6 session zs A3 c3 F c) (hk : Keep (fun j => B6 < j) c c') : OfR w B6 session zs A3 c3 F c' := by
 have hB := (gE h.m).1
 refine ⟨((h.grow.mono (T := fun j => w.heap.size ≤ j) (fun _ h => h.elim)).trans hk (fun j hj => .inl (by have := h.lo; omega))).new (fun j hj => hj), (hk.block _ (Nat.lt_trans h.lo hB) (by have := h.lo; omega)).trans h.z, (hk.block _ hB (by omega)).trans h.m, h.s.keep hk (fun k hk2 => by have := h.hF k hk2; omega), h.hF, h.lo⟩
theorem OfR.later {w : World} {B6 : Nat} {session : Int} {zs : List Int} {A3 : Option Addr} {c3 : Nat} {F : Nat → Prop} {c c' : World} (h : OfR w B6 session zs A3 c3 F c) (hg : Grow c c') : OfR w B6 session zs A3 c3 F c' := h.keep (hg.mono (fun _ h => h.elim))
def zB (zs : List Int) : List Int := zs.flatMap (fun x => putB x 2)
theorem zB_snoc (zs : List Int) (x : Int) : zB (zs ++ [x]) = zB zs ++ putB x 2 := by simp [zB]
theorem zB_length (zs : List Int) : (zB zs).length = 2 * zs.length := by
 induction zs with
 | nil => rfl
 | cons x r ih => simp [zB, putB_length] at ih ⊢; omega
theorem zB_in (zs : List Int) : ∀ c ∈ zB zs, 0 ≤ c ∧ c ≤ 255 := fun c hc => by
 obtain ⟨x, _, h⟩ := List.mem_flatMap.1 hc
 exact putB_in _ _ c h
theorem rB_in (ws : List Int) : ∀ c ∈ rB ws, 0 ≤ c ∧ c ≤ 255 := fun c hc => by
 obtain ⟨x, _, h⟩ := List.mem_flatMap.1 hc
 exact putB_in _ _ c h
theorem maniB_eq (session : Int) (a : List (List Int)) (ho : OkA a) : maniB session a = putB session 8 ++ zB (szs a) ++ rB a.flatten := by
 unfold maniB
 rw [arenaB_eq a ho]
 rfl
def ROfPost (session : Int) (a : List (List Int)) (w : World) (e : Ending) (w' : World) : Prop :=
 ∃ A c, e = .returned (.tuple #[.agg #[.int .u64 session, .slice A (szs a).length c, .int .u32 (sumP session a : Nat)], .int .i64 0]) ∧ Grow w w' ∧ SliceR 1 (.slice A (szs a).length c) (szs a).length (ints (szs a)) w' ∧ ∃ F, Foot (SliceR 1 (.slice A (szs a).length c) (szs a).length (ints (szs a))) w' F ∧ ∀ k, F k → w.heap.size ≤ k
theorem rmof_calls (session : Int) (h0 : 0 ≤ session) (h1 : session ≤ 18446744073709551615) (a : List (List Int)) (ho : OkA a) (hfit : fitsB (szs a) = true) (hfl : a.flatten.length ≤ 1000000) (A : Option Addr) (c : Nat) (w : World) (hR : RowsR .u64 a (.slice A a.length c) w) :
    Calls Tryz.prog 18 #[.int .u64 session, .slice A a.length c] w (ROfPost session a w) := by
 have hg0 := (Keep.refl NoB w).alloc (.cells #[.int .u64 0, .slice none 0 0, .int .u32 0] 40)
 have HZ := LH (heap_alloc_new w (.cells #[.int .u64 0, .slice none 0 0, .int .u32 0] 40))
 have HG := LH hg0
 have HR0 := LH hR
 have H := LH (hR.grow hg0)
 have EM := LH (maniB_eq session a ho)
 have HO := LH ho
 have HF := LH hfit
 have HFL := LH hfl
 have HS01 := LH (And.intro h0 h1)
 clear hR ho hg0 hfit h0 h1 hfl
 go_enter Tryz.func18, Tryz.ntmps18
 go_wp2_with fail
 refine (rright_true a A c _ H.out HF.out).mono ?_
 rintro e w1 ⟨rfl, hg⟩
 replace HZ := LH (Grow.heap hg HZ.out)
 replace HG := LH (HG.out.grow hg)
 replace H := LH (H.out.grow hg)
 clear hg
 go_wp2_with fail
 refine (rsizes_calls a A c w1 H.out HO.out.segs).mono ?_
 rintro e w2 ⟨A3, c3, rfl, hg, hoz⟩
 have hg6 := (Keep.refl NoB w2).alloc (.cells #[.int .u64 session, .slice A3 (szs a).length c3, .int .u32 0] 40)
 have HM : Hid (OfR w w2.heap.size session (szs a) A3 c3 (fun k => (Value.slice A3 (szs a).length c3).ownBlock = some k) (w2.alloc (.cells #[.int .u64 session, .slice A3 (szs a).length c3, .int .u32 0] 40))) :=
  LH ⟨(HG.out.grow hg).grow hg6, Grow.heap (hg.grow hg6) HZ.out, heap_alloc_new w2 _, (Foot.of_own hoz).grow hg6, fun k hk => (hoz.lt k hk).2, by
   have h1 := (gE HZ.out).1
   have := hg.size
   omega⟩
 have HFZ : Hid (∀ k, (Value.slice A3 (szs a).length c3).ownBlock = some k → ¬ k = w.heap.size) := LH (fun k hk e => by
  have h1 := (gE HZ.out).1
  have h2 := (hoz.lt k hk).1
  omega)
 have HFY : Hid (∀ k, (Value.slice A3 (szs a).length c3).ownBlock = some k → w.heap.size ≤ k) := LH (fun k hk => by
  have h1 := (gE HZ.out).1
  have h2 := (hoz.lt k hk).1
  omega)
 replace H := LH (H.out.grow (hg.grow hg6))
 have hszl := (fits_parts HF.out).2.1
 clear hg hoz hg6 HZ HG
 go_wp2_with fail
 refine (rput_calls session 8 _ HS01.out.1 HS01.out.2 (Nat.le_refl _)).mono ?_
 rintro e w3 ⟨A4, c4, rfl, hg, hob⟩
 rw [show (w2.alloc (.cells #[.int .u64 session, .slice A3 (szs a).length c3, .int .u32 0] 40)).heap.size = w2.heap.size + 1 from by simp] at hob
 replace HM := LH (HM.out.later hg)
 replace H := LH (H.out.grow hg)
 have HB := LH hob
 clear hg hob
 go_wp2_with fail
 go_loopw [7, 8, 9] (fun vo v v9 wr => ∃ i : Nat, i ≤ (szs a).length ∧ v = .int .i64 i ∧ ∃ A5 c5 n, vo = .slice A5 n c5 ∧ Hid (n = (putB session 8 ++ zB ((szs a).take i)).length ∧ Keep (fun j => w2.heap.size < j) w3 wr ∧ wr.ownsRow (w2.heap.size + 1) 5 1 (.slice A5 n c5) n (u8s (putB session 8 ++ zB ((szs a).take i))))) (fun _ v _ _ => (szs a).length - (intOf v).toNat)
 case atStart => exact ⟨0, by omega, rfl, A4, c4, _, rfl, by simp [zB], Keep.refl _ _, by simpa [zB] using HB.out⟩
 case round =>
  obtain ⟨i, hi, rfl, A5, c5, n5, rfl, HS5⟩ := hrel
  have HM5 := LH (HM.out.keep HS5.out.2.1)
  obtain ⟨m0, m1, m2, mf⟩ := cells3 HM5.out.m
  have hn5 := HS5.out.1
  rw [List.length_append, putB_length, zB_length, List.length_take, Nat.min_eq_left hi] at hn5
  have hn9 : n5 ≤ 1000 := by omega
  by_cases hlt : i < (szs a).length
  ·have hw : IntKind.i64.wrap ((i : Int) + 1) = (i : Int) + 1 := IntWalk.i64_in _ (by omega)
   have hlt' : (i : Int) < (szs a).length := by omega
   obtain ⟨ad2, rfl, q2⟩ := SliceR.int_at (k := .i64) HM5.out.s.now i hlt
   obtain ⟨hz1, hz2, hznn, hzs⟩ := fits_parts HF.out
   have hx0 := hznn _ (List.getElem_mem hlt)
   have hx1 := take_succ_nn hznn i hlt
   have hx2 := sum_take_le hznn i
   have hx3 : 0 ≤ ((szs a).take i).sum := by
    have := sum_take_le (l := (szs a).take i) (fun x hx => hznn x (List.mem_of_mem_take hx)) 0
    simpa using this
   have hx4 : (szs a)[i] ≤ 4096 := by omega
   have E1 : Hid (u8s (putB session 8 ++ zB ((szs a).take (i + 1))) = u8s (putB session 8 ++ zB ((szs a).take i)) ++ u8s (putB (szs a)[i] 2)) := LH (by
    rw [List.take_succ_eq_append_getElem hlt, zB_snoc, ← List.append_assoc, u8s_app])
   have E2 : Hid (n5 + 2 = (putB session 8 ++ zB ((szs a).take (i + 1))).length) := LH (by
    rw [List.length_append, putB_length, zB_length, List.length_take, Nat.min_eq_left hlt]; omega)
   clear hz1 hz2 hznn hzs hx1 hx2 hx3 hn5
   go_wp2_with fail
   refine (rput_calls (szs a)[i] 2 wr hx0 (by omega) (by omega)).mono ?_
   rintro e w5 ⟨A6, c6, rfl, hg, ho⟩
   rw [putB_length] at ho ⊢
   have HK5 := LH (HS5.out.2.1.grow hg)
   have HO5 := LH (own_keep HS5.out.2.2 hg (fun _ _ h => h))
   have HO6 := LH (SliceR.of_own ho)
   have HSZ : Hid (w2.heap.size + 1 ≤ w5.heap.size) := LH (by have := (gE (HM5.out.later hg).m).1; omega)
   clear hg ho
   go_wp2_with (at_builtin; refine wpList_app _ rfl _ _ 23 23 rfl (w2.heap.size + 1) 5 (.int .u8 0) 1 1 u_bytes info_u8 rfl (.slice A5 n5 c5) n5 (u8s (putB session 8 ++ zB ((szs a).take i))) rfl (.slice A6 2 c6) 2 (u8s (putB (szs a)[i] 2)) rfl ?_ (by exact HO5.out) (by exact SliceR.src HO6.out u_bytes (u8s_one _)) (by simp only [maxLen]; omega) (by omega) (by exact HSZ.out); intro v7 w7 hap; refine Hid.out ?_)
   refine LH ?_
   have HK7 := LH (HK5.out.grown hap.grew (fun k hk => .inl (by have := (HO5.out.lt k hk).1; omega)))
   have Ho7 := LH hap.own
   obtain ⟨A7, c7, rfl, _⟩ := own_slice hap.own
   clear hap m0 m1 m2 mf
   rw [← E1.out] at Ho7
   go_wp2
   go_roundw
   case rel => exact ⟨i + 1, by omega, by go_num, A7, c7, _, rfl, E2.out, HK7.out, Ho7.out⟩
   case measure => simp [intOf]; omega
  ·obtain rfl : i = (szs a).length := by omega
   have hlt' : ¬ (((szs a).length : Int) < (szs a).length) := by omega
   rw [List.take_length] at HS5
   have HH := LH (HR0.out.grow HM5.out.grow)
   clear hn5 hszl
   go_wp2_with fail
   clear m0 m1 m2 mf
   refine (rbytes_calls a HO.out HFL.out A c wr HH.out).mono ?_
   rintro e w6 ⟨A8, c8, rfl, hg, ho8⟩
   have HK6 := LH (HS5.out.2.1.grow hg)
   have HO6 := LH (own_keep HS5.out.2.2 hg (fun _ _ h => h))
   have HO8 := LH (SliceR.of_own ho8)
   have HSZ : Hid (w2.heap.size + 1 ≤ w6.heap.size) := LH (by have := (gE (HM5.out.later hg).m).1; omega)
   have hrl : (rB a.flatten).length ≤ 8000000 := by rw [rB_length]; have := HFL.out; omega
   clear hg ho8
   go_wp2_with (at_builtin; refine wpList_app _ rfl _ _ 23 23 rfl (w2.heap.size + 1) 5 (.int .u8 0) 1 1 u_bytes info_u8 rfl (.slice A5 n5 c5) n5 (u8s (putB session 8 ++ zB (szs a))) rfl (.slice A8 (rB a.flatten).length c8) (rB a.flatten).length (u8s (rB a.flatten)) rfl ?_ (by exact HO6.out) (by exact SliceR.src HO8.out u_bytes (u8s_one _)) (by simp only [maxLen]; omega) (by omega) (by exact HSZ.out); intro v7 w7 hap; refine Hid.out ?_)
   refine LH ?_
   have HK7 := LH (HK6.out.grown hap.grew (fun k hk => .inl (by have := (HO6.out.lt k hk).1; omega)))
   have hown := hap.own
   rw [← u8s_app, ← EM.out, show n5 + (rB a.flatten).length = (maniB session a).length from by rw [EM.out, List.length_append, ← HS5.out.1]] at hown
   obtain ⟨A7, c7, rfl, _⟩ := own_slice hown
   have Ho7 := LH (SliceR.of_own hown)
   have hml : (maniB session a).length ≤ 1000000000 := by rw [EM.out, List.length_append, ← HS5.out.1]; omega
   have hmi : ∀ c ∈ maniB session a, 0 ≤ c ∧ c ≤ 255 := by
    rw [EM.out]
    intro x hx
    rcases List.mem_append.1 hx with hx | hx
    ·rcases List.mem_append.1 hx with hx | hx
     ·exact putB_in _ _ x hx
     ·exact zB_in _ x hx
    ·exact rB_in _ x hx
   have HMI := LH hmi
   have HM7 := LH (HM.out.keep HK7.out)
   clear hap hown hmi
   go_wp2_with fail
   refine (rsum_calls (maniB session a) hml HMI.out A7 c7 w7 Ho7.out).mono ?_
   rintro e w8 ⟨rfl, rfl⟩
   have E9 : Hid (moreN 0 (maniB session a) = sumP session a) := LH rfl
   rw [E9.out]
   obtain ⟨sm, HSM⟩ : ∃ sm, Hid (sumP session a = sm) := ⟨_, LH rfl⟩
   rw [HSM.out]
   obtain ⟨m0, m1, m2, mf⟩ := cells3 HM7.out.m
   have hlo := HM7.out.lo
   have hW1m : (w7.setCell ⟨w2.heap.size, 2, none⟩ (.int .u32 (sm : Nat))).heap[w2.heap.size]? = some (.cells #[.int .u64 session, .slice A3 (szs a).length c3, .int .u32 (sm : Nat)] 40 (0, 0)) := by
    have h0 := HM7.out.m
    simp only [World.setCell, Array.getElem?_modify]
    simp [h0]
   have hk1 : Keep (fun j => j = w2.heap.size) w7 (w7.setCell ⟨w2.heap.size, 2, none⟩ (.int .u32 (sm : Nat))) := (Keep.refl (fun j => j = w2.heap.size) w7).setCell (p := ⟨w2.heap.size, 2, none⟩) (.inl rfl) _
   have hW1z := (hk1.block w.heap.size (gE HM7.out.z).1 (by omega)).trans HM7.out.z
   have hW1g : Grow w (w7.setCell ⟨w2.heap.size, 2, none⟩ (.int .u32 (sm : Nat))) := HM7.out.grow.setCell (p := ⟨w2.heap.size, 2, none⟩) (.inr (by show w.heap.size ≤ w2.heap.size; omega)) _
   have hW1s := HM7.out.s.keep hk1 (fun k hk e => by have := HM7.out.hF k hk; omega)
   obtain ⟨x0, x1, x2, xf⟩ := cells3 hW1m
   obtain ⟨y0, y1, y2, yf⟩ := cells3 hW1z
   obtain ⟨hs3, hg3⟩ := stored3 (.int .u64 session) (.slice A3 (szs a).length c3) (.int .u32 (sm : Nat)) hW1g (Nat.le_refl _) hW1z
   have hk3 : Keep (fun j => j = w.heap.size) (w7.setCell ⟨w2.heap.size, 2, none⟩ (.int .u32 (sm : Nat))) ((((w7.setCell ⟨w2.heap.size, 2, none⟩ (.int .u32 (sm : Nat))).setCell ⟨w.heap.size, 0, none⟩ (.int .u64 session)).setCell ⟨w.heap.size, 1, none⟩ (.slice A3 (szs a).length c3)).setCell ⟨w.heap.size, 2, none⟩ (.int .u32 (sm : Nat))) :=
    ((((Keep.refl (fun j => j = w.heap.size) _).setCell (p := ⟨w.heap.size, 0, none⟩) (.inl rfl) _).setCell (p := ⟨w.heap.size, 1, none⟩) (.inl rfl) _).setCell (p := ⟨w.heap.size, 2, none⟩) (.inl rfl) _)
   have HFIN : Hid (ROfPost session a w (.returned (.tuple #[.agg #[.int .u64 session, .slice A3 (szs a).length c3, .int .u32 (sm : Nat)], .int .i64 0])) ((((w7.setCell ⟨w2.heap.size, 2, none⟩ (.int .u32 (sm : Nat))).setCell ⟨w.heap.size, 0, none⟩ (.int .u64 session)).setCell ⟨w.heap.size, 1, none⟩ (.slice A3 (szs a).length c3)).setCell ⟨w.heap.size, 2, none⟩ (.int .u32 (sm : Nat)))) :=
    LH ⟨A3, c3, by rw [HSM.out], hg3, (hW1s.keep hk3 (fun k hk e => HFZ.out k hk e)).now, _, hW1s.keep hk3 (fun k hk e => HFZ.out k hk e), HFY.out⟩
   have HS3 := LH hs3
   clear hW1m hk1 hW1z hW1g hW1s hs3 hg3 hk3 hlo
   go_wp2
   revert HS3 HFIN
   generalize ((((w7.setCell ⟨w2.heap.size, 2, none⟩ (.int .u32 (sm : Nat))).setCell ⟨w.heap.size, 0, none⟩ (.int .u64 session)).setCell ⟨w.heap.size, 1, none⟩ (.slice A3 (szs a).length c3)).setCell ⟨w.heap.size, 2, none⟩ (.int .u32 (sm : Nat))) = w9
   intro HFIN HS3
   obtain ⟨y0, y1, y2, yf⟩ := cells3 HS3.out
   refine bodyPost_ret (v := .tuple #[.agg #[.int .u64 session, .slice A3 (szs a).length c3, .int .u32 (sm : Nat)], .int .i64 0]) ?_ rfl HFIN.out
   rw [results_cell_tmp rfl]; go_simp
theorem rmright_true (session sum : Int) (l : List Int) (A : Option Addr) (c : Nat) (w : World) (h : SliceR 1 (.slice A l.length c) l.length (ints l) w) (hf : fitsB l = true) :
    Calls Tryz.prog 83 #[.agg #[.int .u64 session, .slice A l.length c, .int .u32 sum]] w fun e w' => e = .returned (.bool true) ∧ Grow w w' := by
 have hga := (Keep.refl NoB w).alloc (.cells #[.int .u64 session, .slice A l.length c, .int .u32 sum] 40)
 have HG := LH hga
 have HR := LH (rfits_true A c l _ (h.grow hga) hf)
 clear h hf hga
 go_enter Tryz.func83, Tryz.ntmps83
 go_wp2_with fail
 refine HR.out.mono ?_
 rintro e w1 ⟨rfl, rfl⟩
 go_wp2
 go_ret
 exact ⟨rfl, HG.out⟩
theorem rmwords_calls (session sum : Int) (l : List Int) (A : Option Addr) (c : Nat) (w : World) (h : SliceR 1 (.slice A l.length c) l.length (ints l) w) (hf : fitsB l = true) :
    Calls Tryz.prog 46 #[.agg #[.int .u64 session, .slice A l.length c, .int .u32 sum]] w fun e w' => e = .returned (.int .i64 l.sum) ∧ Grow w w' := by
 have hga := (Keep.refl NoB w).alloc (.cells #[.int .u64 session, .slice A l.length c, .int .u32 sum] 40)
 have HG := LH hga
 have HH := LH (h.grow hga)
 have HC := LH (heap_alloc_new w (.cells #[.int .u64 session, .slice A l.length c, .int .u32 sum] 40))
 have HF := LH hf
 obtain ⟨m0, m1, m2, mf⟩ := cells3 HC.out
 clear h hf hga
 go_enter Tryz.func46, Tryz.ntmps46
 go_wp2_with fail
 refine (rmright_true session sum l A c _ HH.out HF.out).mono ?_
 rintro e w1 ⟨rfl, hg⟩
 replace HG := LH (HG.out.grow hg)
 replace HH := LH (HH.out.grow hg)
 replace HC := LH (Grow.heap hg HC.out)
 clear hg m0 m1 m2 mf
 go_wp2_with fail
 go_loopw [3, 4] (fun vn v wr => wr = w1 ∧ ∃ (k : Nat) (s : Int), k ≤ l.length ∧ v = .int .i64 k ∧ vn = .int .i64 s ∧ Hid (s = (l.take k).sum) ∧ 0 ≤ s ∧ s ≤ 4096) (fun _ v _ => l.length - (intOf v).toNat)
 case atStart => exact ⟨rfl, 0, 0, by omega, rfl, rfl, LH (by simp), by omega, by omega⟩
 case round =>
  obtain ⟨rfl, k, s, hk, rfl, rfl, HS, hs0, hs1⟩ := hrel
  obtain ⟨m0, m1, m2, mf⟩ := cells3 HC.out
  obtain ⟨hl1, hl2, hnn, hsum⟩ := fits_parts HF.out
  by_cases hlt : k < l.length
  ·obtain ⟨ad2, rfl, q1⟩ := SliceR.int_at (k := .i64) HH.out k hlt
   have hw : IntKind.i64.wrap ((k : Int) + 1) = (k : Int) + 1 := IntWalk.i64_in _ (by omega)
   have hlt' : (k : Int) < l.length := by omega
   have hsu := sum_take_succ hlt
   have hle := take_succ_nn hnn k hlt
   have hn0 : 0 ≤ l[k] := hnn _ (List.getElem_mem hlt)
   have hs9 := HS.out
   have hw3 : IntKind.i64.wrap (s + l[k]) = s + l[k] := IntWalk.i64_in _ (by omega)
   have HR : Hid (s + l[k] = (l.take (k + 1)).sum ∧ 0 ≤ s + l[k] ∧ s + l[k] ≤ 4096) := LH ⟨by omega, by omega, by omega⟩
   clear hsu hle hs9 hnn
   go_wp2
   go_roundw
   case rel => exact ⟨trivial, k + 1, s + l[k], by omega, by go_num, rfl, LH HR.out.1, HR.out.2.1, HR.out.2.2⟩
   case measure => simp [intOf]; omega
  ·obtain rfl : k = l.length := by omega
   have hlt' : ¬ ((l.length : Int) < l.length) := by omega
   have HE : Hid (s = l.sum) := LH (by rw [HS.out, List.take_length])
   clear hnn
   go_wp2
   go_ret
   exact ⟨by rw [HE.out]; rfl, HG.out⟩
theorem rmchunks_calls (session sum : Int) (l : List Int) (A : Option Addr) (c : Nat) (w : World) (h : SliceR 1 (.slice A l.length c) l.length (ints l) w) (hf : fitsB l = true) :
    Calls Tryz.prog 30 #[.agg #[.int .u64 session, .slice A l.length c, .int .u32 sum]] w fun e w' => e = .returned (.int .i64 (chunksN l : Nat)) ∧ Grow w w' := by
 have hga := (Keep.refl NoB w).alloc (.cells #[.int .u64 session, .slice A l.length c, .int .u32 sum] 40)
 have HG := LH hga
 have HR := LH (rmwords_calls session sum l A c _ (h.grow hga) hf)
 obtain ⟨hl1, hl2, hnn, hsum⟩ := fits_parts hf
 have hs0 : 0 ≤ l.sum := by
  have := sum_take_le hnn 0
  simpa using this
 have hw : IntKind.i64.wrap (l.sum + 7) = l.sum + 7 := IntWalk.i64_in _ (by omega)
 have HE : Hid ((l.sum + 7) / 8 = (chunksN l : Nat)) := LH (by unfold chunksN; omega)
 have hp : 0 ≤ l.sum + 7 := by omega
 clear h hf hga hnn
 generalize l.sum = S at *
 go_enter Tryz.func30, Tryz.ntmps30
 go_wp2_with fail
 refine HR.out.mono ?_
 rintro e w1 ⟨rfl, hg⟩
 replace HG := LH (HG.out.grow hg)
 clear hg
 go_wp2
 go_ret
 exact ⟨by rw [HE.out]; rfl, HG.out⟩
end Go.Proofs.YtfkcpaahdlkcdaaGreat
namespace Go.Proofs.YtfkcpaahdlkcdaaGreat
open Go.RowKit
section
variable {P : Program} {ops : Array Oper} {Q : Exit → Act → World → Prop} {ds : List Nat} {S : Nat → Prop} {R : Act → World → Prop} {acts reads : List Nat} {rest : List Nat} {i : Nat} {o : Oper} {a : Act} {w : World}
theorem ord_callG {N : Option Tmp} {f : FuncId} {fn : Func} {xs : Array Operand} {ts : Array TypeId} (hl : ops.toList[i]? = some o) (ha : acts.contains i = true) (hN : o.dst = N) (hg : Region.wanted o (yielded ops a.tmps) = true)
    (hop : o.op = .call { callee := .value (.func f), args := xs, argTypes := ts }) (hf : P.funcs[f]? = some fn) (hname : (fn.name == "runtime.NumGoroutine") = false) (hb : fn.body.isSome = true) (args : List Value) (hargs : xs.toList.map a.eval = args)
    (h : Calls P f args.toArray w fun e w' => ∃ v, e = .returned v ∧ (i ∉ ds → Keep S w w') ∧ wpOrdC S P ops Q R acts reads ds rest (a.put N v) w') : wpOrdC S P ops Q R acts reads ds (i :: rest) a w := by
 refine ord_act hl ha (fun K hK => ?_)
 rw [if_pos hg]
 subst hN
 unfold Oper.wp
 have h1 : fn.name ≠ "runtime.NumGoroutine" := by simpa using hname
 obtain ⟨c, hc⟩ := Option.isSome_iff_exists.1 hb
 have hcall : (callFunc f args.toArray).run P w = .ok (.enter f args.toArray) w := by simp [callFunc, hf, h1, hc]
 have he : (execOp a.eval o).run P w = .ok (.enter f args.toArray) w := by
  unfold execOp
  have hx : xs.map a.eval = args.toArray := by rw [← hargs]; apply Array.ext'; simp
  rw [hop]
  simp [resolve, Deferred.ofValue, invoke, Act.eval, hx, hcall]
 rw [he, Oper.upon_enter]
 refine h.mono fun e w'' hh => ?_
 obtain ⟨v, rfl, h1, h2⟩ := hh
 exact hK _ _ ⟨h1, h2⟩
end
end Go.Proofs.YtfkcpaahdlkcdaaGreat
namespace Go.Proofs.YtfkcpaahdlkcdaaGreat
open Go.RowKit
section
variable {P : Program} {ops : Array Oper} {Q : Exit → Act → World → Prop} {ds : List Nat} {S : Nat → Prop} {R : Act → World → Prop} {acts reads : List Nat} {rest : List Nat} {i : Nat} {o : Oper} {a : Act} {w : World}
theorem ord_make {N : Option Tmp} (hl : ops.toList[i]? = some o) (ha : acts.contains i = true) (hN : o.dst = N) (hg : o.guard = none) (l c : Operand) (t : TypeId) (hop : o.op = Op.makeSlice t l c)
    (base : Nat) (e : TypeId) (z : Value) (size bytes : Nat) (h1 : P.underlying t = some (.slice e)) (h2 : (P.info? e).map (fun i => (i.zero, i.size, i.bytes)) = some (some z, size, bytes))
    (kl kc : IntKind) (L C : Int) (n : Nat) (hl' : a.eval l = .int kl L) (hc' : a.eval c = .int kc C) (hL : L = (n : Int)) (hC : C = (n : Int)) (b2 : bytes * n ≤ 281474976710656) (b3 : n ≤ maxLen) (b4 : base ≤ w.heap.size)
    (h : ∀ w', w'.ownsRow base e size (.slice (some ⟨w.heap.size, 0, none⟩) n n) n (madeCells z.cells (n * size)).toList → w.grownBy w' none → (i ∉ ds → Keep S w w') ∧ wpOrdC S P ops Q R acts reads ds rest (a.put N (.slice (some ⟨w.heap.size, 0, none⟩) n n)) w') :
    wpOrdC S P ops Q R acts reads ds (i :: rest) a w := by
 obtain ⟨ti, hi, q1, q2, q3⟩ := info_parts h2
 obtain ⟨w', hrun, r1, r2⟩ := run_make_full (P := P) w base t e ti z size h1 hi q1 q2 kl kc n (by rw [q3]; exact b2) b3 b4
 subst hL
 subst hC
 refine ord_act hl ha (fun K hK => ?_)
 rw [if_pos (by simp [Region.wanted, hg])]
 subst hN
 unfold Oper.wp
 simp [execOp, hop, hl', hc', hrun, Result.andThen]
 exact hK _ _ (h w' r1 r2)
end
theorem RowsR.foot {k : IntKind} {a : List (List Int)} {v : Value} {w : World} (h : RowsR k a v w) : Foot (RowsR k a v) w (fun j => j < w.heap.size) := by
 refine ⟨fun j hj => hj, fun W' hW => ?_⟩
 obtain ⟨A, c, rfl, hr⟩ := h
 have hcell : ∀ p u, w.cell? p = some u → W'.cell? p = some u := fun p u hc => (World.cell?_of_block (w := w) (hW p.block (World.block_lt_of_cell? _ _ hc))).trans hc
 refine ⟨A, c, rfl, fun i hi => ?_⟩
 obtain ⟨ad, A', c', e1, e2, e3⟩ := hr i hi
 refine ⟨ad, A', c', e1, hcell _ _ e2, ?_⟩
 obtain ⟨A9, c9, f1, f2, f3, f4, f5⟩ := e3
 exact ⟨A9, c9, f1, f2, f3, f4, fun j u hu => by obtain ⟨ad2, g1, g2⟩ := f5 j u hu; exact ⟨ad2, g1, hcell _ _ g2⟩⟩
end Go.Proofs.YtfkcpaahdlkcdaaGreat
namespace Go.Proofs.YtfkcpaahdlkcdaaGreat
open Go.RowKit
theorem made64 (m : Nat) : (madeCells (Value.int .u64 0).cells (m * 1)).toList = u64s (List.replicate m 0) := by
 apply List.ext_getElem (by simp [u64s, madeCells, Value.cells])
 intro j h1 h2
 simp [u64s, madeCells, Value.cells, Nat.mod_one]
theorem pnew_done {session : Int} {sum : Nat} {l : List Int} {w wz : World} {As Ak : Option Addr} {cs ck n bw : Nat} {FS : Nat → Prop} (h01 : 0 ≤ session ∧ session ≤ 18446744073709551615) (hsum : sum < 4294967296) (hf : fitsB l = true) (hn : l.sum = (n : Int))
    (hg : Grow w wz) (hs : Foot (SliceR 1 (.slice As l.length cs) l.length (ints l)) wz FS) (hsk : ∀ k, FS k → w.heap.size ≤ k ∧ k ≠ bw)
    (hw : wz.ownsRow 0 22 1 (.slice (some ⟨bw, 0, none⟩) n n) n (u64s (List.replicate n 0))) (hwb : w.heap.size ≤ bw)
    (hk : wz.ownsRow 0 5 1 (.slice Ak (makeB (chunksN l)).length ck) (makeB (chunksN l)).length (u8s (makeB (chunksN l)))) (hkk : ∀ k, (Value.slice Ak (makeB (chunksN l)).length ck).ownBlock = some k → w.heap.size ≤ k ∧ k ≠ bw) :
    ∃ p G, Grow w (wz.alloc (.cells #[.int .u64 session, .slice As l.length cs, .int .u32 (sum : Nat), .slice As l.length cs, .slice (some ⟨bw, 0, none⟩) n n, .slice Ak (makeB (chunksN l)).length ck] 247)) ∧
     PAt wz.heap.size p ⟨session, l, sum, List.replicate n 0, makeB (chunksN l)⟩ G (wz.alloc (.cells #[.int .u64 session, .slice As l.length cs, .int .u32 (sum : Nat), .slice As l.length cs, .slice (some ⟨bw, 0, none⟩) n n, .slice Ak (makeB (chunksN l)).length ck] 247)) ∧ w.heap.size ≤ wz.heap.size ∧ w.heap.size ≤ p.wb ∧ ∀ k, G k → w.heap.size ≤ k := by
 have hga := (Keep.refl NoB wz).alloc (.cells #[.int .u64 session, .slice As l.length cs, .int .u32 (sum : Nat), .slice As l.length cs, .slice (some ⟨bw, 0, none⟩) n n, .slice Ak (makeB (chunksN l)).length ck] 247)
 have hcell := heap_alloc_new wz (.cells #[.int .u64 session, .slice As l.length cs, .int .u32 (sum : Nat), .slice As l.length cs, .slice (some ⟨bw, 0, none⟩) n n, .slice Ak (makeB (chunksN l)).length ck] 247)
 have hbl := (hw.lt bw rfl).2
 refine ⟨⟨As, cs, bw, n, Ak, ck⟩, fun k => FS k ∨ (Value.slice Ak (makeB (chunksN l)).length ck).ownBlock = some k, hg.grow hga, ⟨?_, ?_, (hs.grow hga).and ((Foot.of_own hk).grow hga), ⟨?_, ?_, ?_⟩, ?_⟩, hg.size, hwb, ?_⟩
 ·simpa using hcell
 ·have := own_keep hw hga (fun _ _ h => h)
  simpa using this
 ·show wz.heap.size ≠ bw
  omega
 ·rintro (h | h)
  ·have := hs.lt h; omega
  ·have := (hk.lt _ h).2; omega
 ·rintro (h | h)
  ·exact (hsk _ h).2 rfl
  ·exact (hkk _ h).2 rfl
 ·exact ⟨h01.1, h01.2, hsum, hf, by show ((List.replicate n (0 : Int)).length : Int) = _; rw [List.length_replicate]; exact hn.symm, fun x hx => by rw [List.eq_of_mem_replicate hx]; decide, OkB.make _, makeB_length _⟩
 ·rintro k (h | h)
  ·exact (hsk k h).1
  ·exact (hkk k h).1
theorem own_zero {base e size n : Nat} {v : Value} {xs : List Value} {w : World} (h : w.ownsRow base e size v n xs) : w.ownsRow 0 e size v n xs := own_base0 h
theorem pnew_calls (session : Int) (sum : Nat) (h01 : 0 ≤ session ∧ session ≤ 18446744073709551615) (hsum : sum < 4294967296) (A : Option Addr) (c : Nat) (l : List Int) (hf : fitsB l = true) (n : Nat) (hn : l.sum = (n : Int)) (w : World) (h : SliceR 1 (.slice A l.length c) l.length (ints l) w) :
    Calls Tryz.prog 166 #[.agg #[.int .u64 session, .slice A l.length c, .int .u32 (sum : Nat)]] w fun e w' => ∃ b p G, e = .returned (.tuple #[.pointer (some ⟨b, 0, none⟩), .int .u16 0]) ∧ Grow w w' ∧ PAt b p ⟨session, l, sum, List.replicate n 0, makeB (chunksN l)⟩ G w' ∧ w.heap.size ≤ b ∧ w.heap.size ≤ p.wb ∧ ∀ k, G k → w.heap.size ≤ k := by
 have HG := LH ((Keep.refl NoB w).alloc (.cells #[.int .u64 session, .slice A l.length c, .int .u32 (sum : Nat)] 40))
 have HH := LH (h.grow HG.out)
 have HC := LH (heap_alloc_new w (.cells #[.int .u64 session, .slice A l.length c, .int .u32 (sum : Nat)] 40))
 have HF := LH hf
 have HS01 := LH h01
 have HSUM := LH hsum
 have HN := LH hn
 obtain ⟨hl1, hl2, hnn, hs9⟩ := fits_parts hf
 have hn9 : n ≤ 4096 := by omega
 have hq9 : chunksN l ≤ 512 := by unfold chunksN; omega
 obtain ⟨m0, m1, m2, mf⟩ := cells3 HC.out
 clear h hf hnn hn h01 hsum
 go_enter Tryz.func166, Tryz.ntmps166
 go_wp2_with fail
 refine (mright_calls session sum A c l _ HH.out HF.out).mono ?_
 rintro e w1 ⟨rfl, hg⟩
 replace HG := LH (HG.out.grow hg)
 replace HH := LH (HH.out.grow hg)
 replace HC := LH (Grow.heap hg HC.out)
 clear hg m0 m1 m2 mf
 obtain ⟨m0, m1, m2, mf⟩ := cells3 HC.out
 go_wp2_with fail
 refine (clonei_calls (.slice A l.length c) l w1 HH.out (by omega)).mono ?_
 rintro e w2 ⟨A3, c3, rfl, hos, hg⟩
 have hc2 := Grow.heap hg HC.out
 have hlt2 := (gE HC.out).1
 have hc3 : (w2.setCell ⟨w.heap.size, 1, none⟩ (.slice A3 l.length c3)).heap[w.heap.size]? = some (.cells #[.int .u64 session, .slice A3 l.length c3, .int .u32 (sum : Nat)] 40 (0, 0)) := by
  simp only [World.setCell, Array.getElem?_modify]
  simp [hc2]
 have hk3 : Keep (fun k => k = w.heap.size) w2 (w2.setCell ⟨w.heap.size, 1, none⟩ (.slice A3 l.length c3)) := (Keep.refl (fun k => k = w.heap.size) w2).setCell (p := ⟨w.heap.size, 1, none⟩) (.inl rfl) _
 have HSO := LH (own_keep hos hk3 (fun k hk e => by have h1 := (hos.lt k hk).1; have e2 : k = w.heap.size := e; omega))
 have HG3 := LH ((HG.out.grow hg).setCell (p := ⟨w.heap.size, 1, none⟩) (.inr (Nat.le_refl _)) (.slice A3 l.length c3))
 obtain ⟨n0, n1, n2, nf⟩ := cells3 hc2
 have HC3 := LH hc3
 have hws : (w2.setCell ⟨w.heap.size, 1, none⟩ (.slice A3 l.length c3)).heap.size = w2.heap.size := World.size_setCell _ _ _
 have HW1 : Hid (w.heap.size ≤ w1.heap.size) := LH HG.out.size
 clear m0 m1 m2 mf hg hos hc2 hc3 hk3 hlt2 HG
 go_wp2
 clear n0 n1 n2 nf
 revert HSO HG3 HC3 hws
 generalize w2.setCell ⟨w.heap.size, 1, none⟩ (.slice A3 l.length c3) = w3
 intro HSO HG3 HC3 hws
 obtain ⟨m0, m1, m2, mf⟩ := cells3 HC3.out
 have HSL := LH (SliceR.of_own HSO.out)
 have HCW := LH (mwords_calls session sum A3 c3 l w3.drew (HSL.out.grow (Keep.refl NoB w3).drew) HF.out)
 rw [HN.out] at HCW
 refine region_cut NoB [0, 1, 2, 3, 6, 4] [4] [0, 2, 3, 6] [] #[true, true, true, true, true, false, true, false, false, false, false, false, false, false] 8 rfl (by kernel_rfl) ?_
 refine ord_read rfl rfl rfl rfl rfl (fun _ _ _ _ h => h) ?_ ?_ ?_ ?_ ?_
 rotate_left 2
 ·intro w' hg; have q0 := hg.cell m0 (fun h => h); have q1 := hg.cell m1 (fun h => h); have q2 := hg.cell m2 (fun h => h); go_simp; with_reducible rfl
 ·simp only [Act.put, pB, pC, pD]; rfl
 refine ord_pure rfl rfl rfl rfl rfl (fun _ _ _ _ h => h) ?_ ?_ ?_ ?_ ?_
 rotate_left 2
 ·intro w'; go_simp; with_reducible rfl
 ·simp only [Act.put, pB, pC, pD]; rfl
 refine ord_read rfl rfl rfl rfl rfl (fun _ _ _ _ h => h) ?_ ?_ ?_ ?_ ?_
 rotate_left 2
 ·intro w' hg; have q0 := hg.cell m0 (fun h => h); have q1 := hg.cell m1 (fun h => h); have q2 := hg.cell m2 (fun h => h); go_simp; with_reducible rfl
 ·simp only [Act.put, pB, pC, pD]; rfl
 refine ord_read rfl rfl rfl rfl rfl (fun _ _ _ _ h => h) ?_ ?_ ?_ ?_ ?_
 rotate_left 2
 ·intro w' hg; have q0 := hg.cell m0 (fun h => h); have q1 := hg.cell m1 (fun h => h); have q2 := hg.cell m2 (fun h => h); go_simp; with_reducible rfl
 ·simp only [Act.put, pB, pC, pD]; rfl
 refine ord_read rfl rfl rfl rfl rfl (fun _ _ _ _ h => h) ?_ ?_ ?_ ?_ ?_
 rotate_left 2
 ·intro w' hg; have q0 := hg.cell m0 (fun h => h); have q1 := hg.cell m1 (fun h => h); have q2 := hg.cell m2 (fun h => h); go_simp; with_reducible rfl
 ·simp only [Act.put, pB, pC, pD]; rfl
 refine ord_call rfl rfl rfl rfl rfl Tryz.func102 rfl rfl [.agg #[.int .u64 session, .slice A3 l.length c3, .int .u32 (sum : Nat)]] rfl ?_
 refine HCW.out.mono ?_
 rintro e wW ⟨rfl, hgW⟩
 refine ⟨_, rfl, fun _ => hgW, ?_⟩
 simp only [Act.put, pB, pC, pD]
 have hgW2 := (Keep.refl NoB w3).drew.grow hgW
 have hwd : w3.drew.heap.size = w3.heap.size := rfl
 clear m0 m1 m2 mf
 refine ord_nil ?_
 refine any_fork 5 7 #[true, true, true, true, true, true, true, false, false, false, false, false, false, false] #[true, true, true, true, true, false, true, true, false, false, false, false, false, false] (by kernel_rfl) ?_ ?_
 ·
  refine ord_make rfl rfl rfl rfl _ _ _ rfl 0 22 (.int .u64 0) 1 8 u_u64s info_u64 .i64 .i64 _ _ n rfl rfl (by rfl) (by rfl) (by omega) (by simp only [maxLen]; omega) (Nat.zero_le _) ?_
  intro wM hownM hgrM
  have hgM : Grow wW wM := (Keep.refl NoB wW).grown hgrM (by simp)
  refine ⟨fun _ => hgM, ?_⟩
  rw [made64] at hownM
  refine ord_nil ?_
  refine any_ord [7, 8, 9, 10, 11, 12, 13] [7, 8, 11, 12, 13] [] (by kernel_rfl) ?_
  have hcc := mchunks_calls session sum A3 c3 l wM (HSL.out.grow (hgW2.grow hgM)) HF.out
  refine ord_call rfl rfl rfl rfl rfl Tryz.func64 rfl rfl [.agg #[.int .u64 session, .slice A3 l.length c3, .int .u32 (sum : Nat)]] rfl ?_
  refine hcc.mono ?_
  rintro e wC ⟨rfl, hgC⟩
  refine ⟨_, rfl, fun _ => hgC, ?_⟩
  simp only [Act.put, pB, pC, pD]
  have hbm := bmake_calls (chunksN l) (by omega) wC
  refine ord_call rfl rfl rfl rfl rfl Tryz.func66 rfl rfl [.int .i64 (chunksN l : Nat)] rfl ?_
  refine hbm.mono ?_
  rintro e wK ⟨A9, c9, rfl, hgK, hoK⟩
  refine ⟨_, rfl, fun _ => hgK, ?_⟩
  simp only [Act.put, pB, pC, pD]
  iterate 2
   refine ord_pure rfl rfl rfl rfl rfl (fun _ _ _ _ h => h) ?_ ?_ ?_ ?_ ?_
   rotate_left 2
   ·intro w'; go_simp; with_reducible rfl
   ·simp only [Act.put, pB, pC, pD]; rfl
  refine ord_new rfl rfl rfl rfl ?_ ?_ ?_ ?_ ?_ ?_
  rotate_left 3
  ·go_simp; first | with_reducible rfl | (constructor <;> with_reducible rfl)
  ·simp only [Act.put, pB, pC, pD]; rfl
  iterate 2
   refine ord_set rfl rfl rfl rfl ?_ ?_ ?_ ?_ ?_
   rotate_left 2
   ·go_simp; with_reducible rfl
   ·simp only [Act.put, pB, pC, pD]; rfl
  refine ord_nil ?_
  have hlM := (hownM.lt wW.heap.size rfl).2
  have s1 := HW1.out
  have s2 := HG3.out.size
  have s3 := hgW.size
  have s4 := hgC.size
  have s5 := hgK.size
  have s6 := hgM.size
  have hfin := pnew_done (session := session) (sum := sum) HS01.out HSUM.out HF.out HN.out (HG3.out.grow (((hgW2.grow hgM).grow hgC).grow hgK)) ((Foot.of_own HSO.out).grow (((hgW2.grow hgM).grow hgC).grow hgK)) (fun k hk => ⟨by have := (HSO.out.lt k hk).1; omega, by have := (HSO.out.lt k hk).2; omega⟩) (own_keep hownM (hgC.grow hgK) (fun _ _ h => h)) (by omega) (own_zero hoK) (fun k hk => ⟨by have := (hoK.lt k hk).1; omega, by have := (hoK.lt k hk).1; omega⟩)
  have HFIN := LH hfin
  clear hfin hlM s1 s2 s3 s4 s5 s6 hownM hgM hgC hgK hoK hgrM hgW hgW2 hwd hws
  go_wp2
  go_ret2
  obtain ⟨p, G, hgf, hP, hb1, hb2, hb3⟩ := HFIN.out
  exact ⟨_, p, G, rfl, hgf, hP, hb1, hb2, hb3⟩
 ·
  have hcc := mchunks_calls session sum A3 c3 l wW (HSL.out.grow (hgW2)) HF.out
  refine ord_call rfl rfl rfl rfl rfl Tryz.func64 rfl rfl [.agg #[.int .u64 session, .slice A3 l.length c3, .int .u32 (sum : Nat)]] rfl ?_
  refine hcc.mono ?_
  rintro e wC ⟨rfl, hgC⟩
  refine ⟨_, rfl, fun _ => hgC, ?_⟩
  simp only [Act.put, pB, pC, pD]
  refine ord_nil ?_
  refine any_fork 5 8 #[true, true, true, true, true, true, true, true, false, false, false, false, false, false] #[true, true, true, true, true, false, true, true, true, false, false, false, false, false] (by kernel_rfl) ?_ ?_
  ·
   refine ord_make rfl rfl rfl rfl _ _ _ rfl 0 22 (.int .u64 0) 1 8 u_u64s info_u64 .i64 .i64 _ _ n rfl rfl (by rfl) (by rfl) (by omega) (by simp only [maxLen]; omega) (Nat.zero_le _) ?_
   intro wM hownM hgrM
   have hgM : Grow wC wM := (Keep.refl NoB wC).grown hgrM (by simp)
   refine ⟨fun _ => hgM, ?_⟩
   rw [made64] at hownM
   refine ord_nil ?_
   refine any_ord [8, 9, 10, 11, 12, 13] [8, 11, 12, 13] [] (by kernel_rfl) ?_
   have hbm := bmake_calls (chunksN l) (by omega) wM
   refine ord_call rfl rfl rfl rfl rfl Tryz.func66 rfl rfl [.int .i64 (chunksN l : Nat)] rfl ?_
   refine hbm.mono ?_
   rintro e wK ⟨A9, c9, rfl, hgK, hoK⟩
   refine ⟨_, rfl, fun _ => hgK, ?_⟩
   simp only [Act.put, pB, pC, pD]
   iterate 2
    refine ord_pure rfl rfl rfl rfl rfl (fun _ _ _ _ h => h) ?_ ?_ ?_ ?_ ?_
    rotate_left 2
    ·intro w'; go_simp; with_reducible rfl
    ·simp only [Act.put, pB, pC, pD]; rfl
   refine ord_new rfl rfl rfl rfl ?_ ?_ ?_ ?_ ?_ ?_
   rotate_left 3
   ·go_simp; first | with_reducible rfl | (constructor <;> with_reducible rfl)
   ·simp only [Act.put, pB, pC, pD]; rfl
   iterate 2
    refine ord_set rfl rfl rfl rfl ?_ ?_ ?_ ?_ ?_
    rotate_left 2
    ·go_simp; with_reducible rfl
    ·simp only [Act.put, pB, pC, pD]; rfl
   refine ord_nil ?_
   have hlM := (hownM.lt wC.heap.size rfl).2
   have s1 := HW1.out
   have s2 := HG3.out.size
   have s3 := hgW.size
   have s4 := hgC.size
   have s5 := hgK.size
   have s6 := hgM.size
   have hfin := pnew_done (session := session) (sum := sum) HS01.out HSUM.out HF.out HN.out (HG3.out.grow (((hgW2.grow hgC).grow hgM).grow hgK)) ((Foot.of_own HSO.out).grow (((hgW2.grow hgC).grow hgM).grow hgK)) (fun k hk => ⟨by have := (HSO.out.lt k hk).1; omega, by have := (HSO.out.lt k hk).2; omega⟩) (own_keep hownM hgK (fun _ _ h => h)) (by omega) (own_zero hoK) (fun k hk => ⟨by have := (hoK.lt k hk).1; omega, by have := (hoK.lt k hk).1; omega⟩)
   have HFIN := LH hfin
   clear hfin hlM s1 s2 s3 s4 s5 s6 hownM hgM hgC hgK hoK hgrM hgW hgW2 hwd hws
   go_wp2
   go_ret2
   obtain ⟨p, G, hgf, hP, hb1, hb2, hb3⟩ := HFIN.out
   exact ⟨_, p, G, rfl, hgf, hP, hb1, hb2, hb3⟩
  ·
   have hbm := bmake_calls (chunksN l) (by omega) wC
   refine ord_call rfl rfl rfl rfl rfl Tryz.func66 rfl rfl [.int .i64 (chunksN l : Nat)] rfl ?_
   refine hbm.mono ?_
   rintro e wK ⟨A9, c9, rfl, hgK, hoK⟩
   refine ⟨_, rfl, fun _ => hgK, ?_⟩
   simp only [Act.put, pB, pC, pD]
   refine ord_nil ?_
   refine any_ord [5, 9, 10, 11, 12, 13] [5, 11, 12, 13] [] (by kernel_rfl) ?_
   refine ord_make rfl rfl rfl rfl _ _ _ rfl 0 22 (.int .u64 0) 1 8 u_u64s info_u64 .i64 .i64 _ _ n rfl rfl (by rfl) (by rfl) (by omega) (by simp only [maxLen]; omega) (Nat.zero_le _) ?_
   intro wM hownM hgrM
   have hgM : Grow wK wM := (Keep.refl NoB wK).grown hgrM (by simp)
   refine ⟨fun _ => hgM, ?_⟩
   rw [made64] at hownM
   iterate 2
    refine ord_pure rfl rfl rfl rfl rfl (fun _ _ _ _ h => h) ?_ ?_ ?_ ?_ ?_
    rotate_left 2
    ·intro w'; go_simp; with_reducible rfl
    ·simp only [Act.put, pB, pC, pD]; rfl
   refine ord_new rfl rfl rfl rfl ?_ ?_ ?_ ?_ ?_ ?_
   rotate_left 3
   ·go_simp; first | with_reducible rfl | (constructor <;> with_reducible rfl)
   ·simp only [Act.put, pB, pC, pD]; rfl
   iterate 2
    refine ord_set rfl rfl rfl rfl ?_ ?_ ?_ ?_ ?_
    rotate_left 2
    ·go_simp; with_reducible rfl
    ·simp only [Act.put, pB, pC, pD]; rfl
   refine ord_nil ?_
   have hlM := (hownM.lt wK.heap.size rfl).2
   have s1 := HW1.out
   have s2 := HG3.out.size
   have s3 := hgW.size
   have s4 := hgC.size
   have s5 := hgK.size
   have s6 := hgM.size
   have hfin := pnew_done (session := session) (sum := sum) HS01.out HSUM.out HF.out HN.out (HG3.out.grow (((hgW2.grow hgC).grow hgK).grow hgM)) ((Foot.of_own HSO.out).grow (((hgW2.grow hgC).grow hgK).grow hgM)) (fun k hk => ⟨by have := (HSO.out.lt k hk).1; omega, by have := (HSO.out.lt k hk).2; omega⟩) (own_keep hownM (Keep.refl NoB wM) (fun _ _ h => h)) (by omega) (own_keep (own_zero hoK) hgM (fun _ _ h => h)) (fun k hk => ⟨by have := (hoK.lt k hk).1; omega, by have := (hoK.lt k hk).2; omega⟩)
   have HFIN := LH hfin
   clear hfin hlM s1 s2 s3 s4 s5 s6 hownM hgM hgC hgK hoK hgrM hgW hgW2 hwd hws
   go_wp2
   go_ret2
   obtain ⟨p, G, hgf, hP, hb1, hb2, hb3⟩ := HFIN.out
   exact ⟨_, p, G, rfl, hgf, hP, hb1, hb2, hb3⟩
theorem pput_old {b : Nat} {p : PP} {d : Par} {G : Nat → Prop} {w : World} (h : PAt b p d G w) (i : Nat) (hi : i < chunksN d.sz) (hgb : getB d.known i = true) (A : Option Addr) (n c : Nat) (hl : (n : Int) = sizeN d.sz i) :
    Calls Tryz.prog 106 #[.pointer (some ⟨b, 0, none⟩), .int .i64 (i : Nat), .slice A n c] w fun e w' => e = .returned (.bool true) ∧ Grow w w' := by
 obtain ⟨c0, c1, c2, c3, c4, c5, cf⟩ := cells6' h.cell
 have hq : chunksN d.sz ≤ 512 := by have := fits_parts h.ok.fit; unfold chunksN; omega
 have hi0 : ¬ ((i : Int) < 0) := by omega
 have hi1 : ¬ ((chunksN d.sz : Int) ≤ (i : Int)) := by omega
 have hi2 : decide (chunksN d.sz ≤ i) = false := decide_eq_false (by omega)
 have hne : ((n : Int) != sizeN d.sz i) = false := by rw [hl]; simp
 have HP := LH h
 have HGB := LH hgb
 have HI := LH hi
 clear h hgb hi hl
 go_enter Tryz.func106, Tryz.ntmps106
 go_wp2_with fail
 refine (mchunks_calls d.session d.sum p.As p.cs d.sz _ HP.out.ro.now.1 HP.out.ok.fit).mono ?_
 rintro e w1 ⟨rfl, hg⟩
 have HG := LH hg
 replace HP := LH (HP.out.grow hg)
 clear hg c0 c1 c2 c3 c4 c5 cf
 obtain ⟨c0, c1, c2, c3, c4, c5, cf⟩ := cells6' HP.out.cell
 go_wp2_with fail
 refine (msize_calls d.session d.sum p.As p.cs d.sz _ HP.out.ro.now.1 HP.out.ok.fit i HI.out).mono ?_
 rintro e w2 ⟨rfl, hg⟩
 replace HG := LH (HG.out.grow hg)
 replace HP := LH (HP.out.grow hg)
 clear hg c0 c1 c2 c3 c4 c5 cf
 obtain ⟨c0, c1, c2, c3, c4, c5, cf⟩ := cells6' HP.out.cell
 have hbg := bget_calls p.Ak p.ck d.known HP.out.ok.known i (by omega) w2 HP.out.ro.now.2
 rw [HGB.out] at hbg
 have HBG := LH hbg
 clear hbg
 go_wp2_with fail
 refine HBG.out.mono ?_
 rintro e w3 ⟨rfl, rfl⟩
 go_wp2
 go_ret
 exact ⟨rfl, HG.out⟩
theorem pknown_calls {b : Nat} {p : PP} {d : Par} {G : Nat → Prop} {w : World} (h : PAt b p d G w) :
    Calls Tryz.prog 117 #[.pointer (some ⟨b, 0, none⟩)] w fun e w' => ∃ A c, e = .returned (.slice A d.known.length c) ∧ Grow w w' ∧ w'.ownsRow w.heap.size 5 1 (.slice A d.known.length c) d.known.length (u8s d.known) := by
 obtain ⟨c0, c1, c2, c3, c4, c5, cf⟩ := cells6' h.cell
 have hq : d.known.length ≤ 1000 := by have := fits_parts h.ok.fit; rw [h.ok.klen]; unfold chunksN; omega
 have HP := LH h
 clear h
 go_enter Tryz.func117, Tryz.ntmps117
 go_wp2_with fail
 refine (bclone_calls (.slice p.Ak d.known.length p.ck) d.known w HP.out.ro.now.2 (by omega)).mono ?_
 rintro e w1 ⟨A1, c1', rfl, ho, hg⟩
 go_wp2
 go_ret
 exact ⟨_, _, rfl, hg, ho⟩
theorem pbytes_calls {b : Nat} {p : PP} {d : Par} {G : Nat → Prop} {w : World} (h : PAt b p d G w) :
    Calls Tryz.prog 119 #[.pointer (some ⟨b, 0, none⟩)] w fun e w' => e = .returned (.int .i64 (8 * d.sz.sum)) ∧ Grow w w' := by
 obtain ⟨c0, c1, c2, c3, c4, c5, cf⟩ := cells6' h.cell
 have hs := fits_parts h.ok.fit
 have hs0 : 0 ≤ d.sz.sum := by have := sum_nn hs.2.2.1; omega
 have hw : IntKind.i64.wrap (8 * d.sz.sum) = 8 * d.sz.sum := IntWalk.i64_in _ (by omega)
 have HP := LH h
 clear h hs
 go_enter Tryz.func119, Tryz.ntmps119
 go_wp2_with fail
 refine (mwords_calls d.session d.sum p.As p.cs d.sz _ HP.out.ro.now.1 HP.out.ok.fit).mono ?_
 rintro e w1 ⟨rfl, hg⟩
 go_wp2
 go_ret
 exact ⟨rfl, hg⟩
theorem pbytes_nil (w : World) : Calls Tryz.prog 119 #[.pointer none] w fun e w' => e = .returned (.int .i64 0) ∧ w = w' := by
 go_enter Tryz.func119, Tryz.ntmps119
 go_wp2
 go_ret
 exact ⟨rfl, rfl⟩
theorem pmani_calls {b : Nat} {p : PP} {d : Par} {G : Nat → Prop} {w : World} (h : PAt b p d G w) :
    Calls Tryz.prog 118 #[.pointer (some ⟨b, 0, none⟩)] w fun e w' => ∃ A c, e = .returned (.agg #[.int .u64 d.session, .slice A d.sz.length c, .int .u32 (d.sum : Nat)]) ∧ Grow w w' ∧ w'.ownsRow w.heap.size 3 1 (.slice A d.sz.length c) d.sz.length (ints d.sz) := by
 have hs := fits_parts h.ok.fit
 have hg0 := (Keep.refl NoB w).alloc (.cells #[.int .u64 0, .slice none 0 0, .int .u32 0] 40)
 have hz := heap_alloc_new w (.cells #[.int .u64 0, .slice none 0 0, .int .u32 0] 40)
 have hP0 := h.grow hg0
 obtain ⟨c0, c1, c2, c3, c4, c5, cf⟩ := cells6' hP0.cell
 have hg1 := (Keep.refl NoB (w.alloc (.cells #[.int .u64 0, .slice none 0 0, .int .u32 0] 40))).alloc (.cells #[.int .u64 d.session, .slice p.As d.sz.length p.cs, .int .u32 (d.sum : Nat)] 40)
 have hm := heap_alloc_new (w.alloc (.cells #[.int .u64 0, .slice none 0 0, .int .u32 0] 40)) (.cells #[.int .u64 d.session, .slice p.As d.sz.length p.cs, .int .u32 (d.sum : Nat)] 40)
 rw [World.size_alloc] at hm
 obtain ⟨m0, m1, m2, mf⟩ := cells3 hm
 have HP := LH (hP0.grow hg1)
 have HZ := LH (Grow.heap hg1 hz)
 have HM := LH hm
 have HG := LH (hg0.grow hg1)
 have hl9 : d.sz.length ≤ 16 := hs.2.1
 clear h hs hz hP0 hg0 hg1 hm
 go_enter Tryz.func118, Tryz.ntmps118
 go_wp2_with fail
 refine (clonei_calls (.slice p.As d.sz.length p.cs) d.sz _ HP.out.ro.now.1 (by omega)).mono ?_
 rintro e w2 ⟨A3, c3', rfl, hos, hg⟩
 simp only [World.size_alloc] at hos
 have hz2 := Grow.heap hg HZ.out
 have hm2 := Grow.heap hg HM.out
 have hlt := (gE hm2).1
 obtain ⟨n0, n1, n2, nf⟩ := cells3 hm2
 have hm3 : (w2.setCell ⟨w.heap.size + 1, 1, none⟩ (.slice A3 d.sz.length c3')).heap[w.heap.size + 1]? = some (.cells #[.int .u64 d.session, .slice A3 d.sz.length c3', .int .u32 (d.sum : Nat)] 40 (0, 0)) := by
  simp only [World.setCell, Array.getElem?_modify]
  simp [hm2]
 obtain ⟨q0, q1, q2, qf⟩ := cells3 hm3
 have hk3 : Keep (fun k => k = w.heap.size + 1) w2 (w2.setCell ⟨w.heap.size + 1, 1, none⟩ (.slice A3 d.sz.length c3')) := (Keep.refl (fun k => k = w.heap.size + 1) w2).setCell (p := ⟨w.heap.size + 1, 1, none⟩) (.inl rfl) _
 have hz3 := (hk3.block w.heap.size (by omega) (by omega)).trans hz2
 obtain ⟨z0, z1, z2, zf⟩ := cells3 hz3
 have hg3 := (HG.out.grow hg).setCell (p := ⟨w.heap.size + 1, 1, none⟩) (.inr (by show w.heap.size ≤ w.heap.size + 1; omega)) (.slice A3 d.sz.length c3')
 obtain ⟨hs4, hg4⟩ := stored3 (.int .u64 d.session) (.slice A3 d.sz.length c3') (.int .u32 (d.sum : Nat)) hg3 (Nat.le_refl _) hz3
 have hk4 : Keep (fun k => k = w.heap.size) (w2.setCell ⟨w.heap.size + 1, 1, none⟩ (.slice A3 d.sz.length c3')) ((((w2.setCell ⟨w.heap.size + 1, 1, none⟩ (.slice A3 d.sz.length c3')).setCell ⟨w.heap.size, 0, none⟩ (.int .u64 d.session)).setCell ⟨w.heap.size, 1, none⟩ (.slice A3 d.sz.length c3')).setCell ⟨w.heap.size, 2, none⟩ (.int .u32 (d.sum : Nat))) :=
  ((((Keep.refl (fun k => k = w.heap.size) _).setCell (p := ⟨w.heap.size, 0, none⟩) (.inl rfl) _).setCell (p := ⟨w.heap.size, 1, none⟩) (.inl rfl) _).setCell (p := ⟨w.heap.size, 2, none⟩) (.inl rfl) _)
 have hof := own_keep (own_keep hos hk3 (fun k hk e => by have h1 := (hos.lt k hk).1; have e2 : k = w.heap.size + 1 := e; omega)) hk4 (fun k hk e => by have h1 := (hos.lt k hk).1; have e2 : k = w.heap.size := e; omega)
 have HFIN := LH (And.intro hg4 (own_le hof (by omega : w.heap.size ≤ w.heap.size + 1 + 1)))
 have HS4 := LH hs4
 clear hg hos hz2 hm2 hlt hm3 hk3 hz3 hg3 hs4 hg4 hk4 hof m0 m1 m2 mf c0 c1 c2 c3 c4 c5 cf
 go_wp2
 clear n0 n1 n2 nf q0 q1 q2 qf z0 z1 z2 zf
 revert HFIN HS4
 generalize (((w2.setCell ⟨w.heap.size + 1, 1, none⟩ (.slice A3 d.sz.length c3')).setCell ⟨w.heap.size, 0, none⟩ (.int .u64 d.session)).setCell ⟨w.heap.size, 1, none⟩ (.slice A3 d.sz.length c3')).setCell ⟨w.heap.size, 2, none⟩ (.int .u32 (d.sum : Nat)) = w9
 intro HFIN HS4
 obtain ⟨r0, r1, r2, rf⟩ := cells3 HS4.out
 refine bodyPost_ret (v := .agg #[.int .u64 d.session, .slice A3 d.sz.length c3', .int .u32 (d.sum : Nat)]) ?_ rfl ⟨_, _, rfl, HFIN.out.1, HFIN.out.2⟩
 rw [results_cell1 rfl]; go_simp
end Go.Proofs.YtfkcpaahdlkcdaaGreat

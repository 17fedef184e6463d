import Derived.Test.YtfkcpaahdlkcdaaGreatRSendRetries09
import Derived.Test.YtfkcpaahdlkcdaaGreatRSendRetries10
import Derived.Test.YtfkcpaahdlkcdaaGreatRSendRetries11
import Derived.Test.YtfkcpaahdlkcdaaGreatRSendRetries16
set_option linter.unusedSimpArgs false
set_option linter.unusedVariables false
set_option maxRecDepth 100000
set_option maxHeartbeats 16000000
namespace Go.Proofs.YtfkcpaahdlkcdaaGreat
open Go.RowKit
theorem poly_mod (a b : Nat) : 2197175160 * ((a ^^^ b) % 2) = (2197175160 * (a % 2)) ^^^ (2197175160 * (b % 2)) := by
 have h : (a ^^^ b) % 2 = (a % 2) ^^^ (b % 2) := Nat.xor_mod_two_pow (n := 1)
 rcases Nat.mod_two_eq_zero_or_one a with ha | ha <;> rcases Nat.mod_two_eq_zero_or_one b with hb | hb
 ·rw [h, ha, hb]; rfl
 ·rw [h, ha, hb]; rfl
 ·rw [h, ha, hb]; rfl
 ·rw [h, ha, hb, Nat.xor_self]; decide
theorem stepN_xor (a b : Nat) : stepN (a ^^^ b) = stepN a ^^^ stepN b := by
 unfold stepN
 rw [poly_mod, Nat.xor_div_two]
 ac_rfl
theorem stepsN_xor (a b : Nat) : ∀ k, stepsN k (a ^^^ b) = stepsN k a ^^^ stepsN k b
 | 0 => rfl
 | k + 1 => by
  unfold stepsN
  rw [stepsN_xor a b k, stepN_xor]
theorem stepN_two (m : Nat) : stepN (2 * m) = m := by
 unfold stepN
 rw [show 2 * m / 2 = m from by omega, show 2 * m % 2 = 0 from by omega]
 simp
theorem stepsN_eight (m : Nat) : stepsN 8 (256 * m) = m := by
 rw [show 256 * m = 2 * (2 * (2 * (2 * (2 * (2 * (2 * (2 * m))))))) from by omega]
 simp only [stepsN, stepN_two]
theorem split8 (n : Nat) : (256 * (n / 256)) ^^^ (n % 256) = n := by
 apply Nat.eq_of_testBit_eq
 intro i
 rw [Nat.testBit_xor, show (256 : Nat) = 2 ^ 8 from rfl, Nat.testBit_two_pow_mul, Nat.testBit_mod_two_pow, Nat.testBit_div_two_pow]
 by_cases h : i < 8
 ·have h2 : ¬ (8 ≤ i) := by omega
  simp [h, h2]
 ·have h2 : 8 ≤ i := by omega
  simp [h, h2]
theorem byte_eq (n c : Nat) : stepsN 8 (n ^^^ c) = (n / 256) ^^^ stepsN 8 ((n % 256) ^^^ c) := by
 conv => lhs; rw [← split8 n]
 rw [Nat.xor_assoc, stepsN_xor, stepsN_eight]
def rcrcN (n : Nat) (bs : List Int) : Nat := bs.foldl (fun n c => stepsN 8 (n ^^^ c.toNat)) n
theorem rcrcN_snoc (n : Nat) (bs : List Int) (c : Int) : rcrcN n (bs ++ [c]) = stepsN 8 (rcrcN n bs ^^^ c.toNat) := by simp [rcrcN]
theorem rcrcN_eq (n : Nat) (bs : List Int) : rcrcN n bs = crcN n bs := by
 induction bs generalizing n with
 | nil => rfl
 | cons c bs ih =>
  show rcrcN (stepsN 8 (n ^^^ c.toNat)) bs = crcN ((n / 256) ^^^ stepsN 8 ((n % 256) ^^^ c.toNat)) bs
  rw [byte_eq]
  exact ih _
theorem rstep_nat (n : Nat) (w : World) (h : n < 4294967296) : Calls Tryz.prog 209 #[.int .u32 n] w fun e w' => e = .returned (.int .u32 (stepN n : Nat)) ∧ w = w' := by
 have h0 : (0 : Int) ≤ n := by omega
 have h1 : (n : Int) ≤ 4294967295 := by omega
 rcases Nat.mod_two_eq_zero_or_one n with hm | hm
 ·have hb : ((n : Int) % 2 == 1) = false := beq_eq_false_iff_ne.2 (by omega)
  have E : Hid ((n : Int) / 2 = ((stepN n : Nat) : Int)) := LH (by unfold stepN; rw [hm]; simp)
  go_enter Tryz.func209, Tryz.ntmps209
  go_wp2
  go_ret
  rw [← E.out]
  exact ⟨rfl, rfl⟩
 ·have hb : ((n : Int) % 2 == 1) = true := beq_iff_eq.2 (by omega)
  have E : Hid (bits .xor .u32 ((n : Int) / 2) 2197175160 = ((stepN n : Nat) : Int)) := LH (by
   have := u32_xor_nat (n / 2) 2197175160 (by omega) (by decide)
   rw [show ((n / 2 : Nat) : Int) = (n : Int) / 2 from by omega] at this
   unfold stepN; rw [hm]
   exact this)
  go_enter Tryz.func209, Tryz.ntmps209
  go_wp2
  go_ret
  rw [← E.out]
  exact ⟨rfl, rfl⟩
theorem rcmore_calls (n : Nat) (hn : n < 4294967296) (bs : List Int) (hbig : bs.length ≤ 1000000000) (hb : ∀ c ∈ bs, 0 ≤ c ∧ c ≤ 255) (A : Option Addr) (c : Nat) (w : World) (h : SliceR 1 (.slice A bs.length c) bs.length (u8s bs) w) :
    Calls Tryz.prog 145 #[.int .u32 n, .slice A bs.length c] w fun e w' => e = .returned (.int .u32 (moreN n bs : Nat)) ∧ w = w' := by
 have HB := LH hb
 have H := LH h
 clear hb h
 have h0 : (0 : Int) ≤ n := by omega
 have h1 : (n : Int) ≤ 4294967295 := by omega
 have hnx : bits .xor .u32 (n : Int) 4294967295 = ((4294967295 ^^^ n : Nat) : Int) := by
  rw [Nat.xor_comm]; exact u32_xor_nat n 4294967295 hn (by decide)
 have hlm := not_lt' hn
 have E0 : Hid (moreN n bs = rcrcN (4294967295 ^^^ n) bs ^^^ 4294967295) := LH (by unfold moreN; rw [rcrcN_eq, Nat.xor_comm])
 generalize 4294967295 ^^^ n = n0 at *
 go_enter Tryz.func145, Tryz.ntmps145
 go_wp2
 clear hnx
 go_loopw [0, 5, 6] (fun vn v v6 wr => wr = w ∧ ∃ k : Nat, k ≤ bs.length ∧ v = .int .i64 k ∧ vn = .int .u32 (rcrcN n0 (bs.take k) : Nat)) (fun _ v _ _ => bs.length - (intOf v).toNat)
 case atStart => exact ⟨rfl, 0, by omega, rfl, by simp [rcrcN]⟩
 case round =>
  obtain ⟨rfl, k, hk, rfl, rfl⟩ := hrel
  have hlt2 : rcrcN n0 (bs.take k) < 4294967296 := by rw [rcrcN_eq]; exact crcN_lt (fun x hx => HB.out x (List.mem_of_mem_take hx)) hlm
  by_cases hlt : k < bs.length
  ·have hlt' : (k : Int) < bs.length := by omega
   have hbl : bs.length ≤ 1000000000 := hbig
   have hw : IntKind.i64.wrap ((k : Int) + 1) = (k : Int) + 1 := IntWalk.i64_in _ (by omega)
   obtain ⟨ad, rfl, q1⟩ := SliceR.int_at (k := .u8) H.out k hlt
   have hc := HB.out _ (List.getElem_mem hlt)
   have hc0 := hc.1
   have hc1 := hc.2
   have Hsn : Hid (rcrcN n0 (bs.take (k + 1)) = stepsN 8 (rcrcN n0 (bs.take k) ^^^ bs[k].toNat)) := LH (by rw [List.take_succ_eq_append_getElem hlt, rcrcN_snoc])
   generalize rcrcN n0 (bs.take k) = m at *
   have hx32 : bits .xor .u32 (m : Int) bs[k] = ((m ^^^ bs[k].toNat : Nat) : Int) := by
    have := u32_xor_nat m bs[k].toNat hlt2 (by omega)
    rwa [show ((bs[k].toNat : Nat) : Int) = bs[k] from by omega] at this
   have hlt3 : m ^^^ bs[k].toNat < 4294967296 := Nat.xor_lt_two_pow (n := 32) hlt2 (by omega)
   generalize m ^^^ bs[k].toNat = ix at *
   go_wp2_with fail
   go_loopw [0, 6] (fun vn v wr2 => wr2 = wr ∧ ∃ i : Nat, i ≤ 8 ∧ v = .int .i64 i ∧ vn = .int .u32 (stepsN i ix : Nat)) (fun _ v _ => 8 - (intOf v).toNat)
   case atStart => exact ⟨rfl, 0, by omega, rfl, rfl⟩
   case round =>
    obtain ⟨rfl, i, hi, rfl, rfl⟩ := hrel
    have hs2 := stepsN_lt hlt3 i
    by_cases hilt : i < 8
    ·have hilt' : (i : Int) < 8 := by omega
     have hwi : IntKind.i64.wrap ((i : Int) + 1) = (i : Int) + 1 := IntWalk.i64_in _ (by omega)
     go_wp2_with fail
     refine (rstep_nat _ _ hs2).mono ?_
     rintro e w' ⟨rfl, rfl⟩
     go_wp2
     go_roundw
     case rel => exact ⟨trivial, i + 1, by omega, by go_num, rfl⟩
     case measure => simp [intOf]; omega
    ·obtain rfl : i = 8 := by omega
     go_wp2
     go_roundw
     case rel => exact ⟨trivial, k + 1, by omega, by go_num, by rw [Hsn.out]⟩
     case measure => simp [intOf]; omega
  ·obtain rfl : k = bs.length := by omega
   have hlt' : ¬ ((bs.length : Int) < bs.length) := by omega
   rw [List.take_length] at hlt2 ⊢
   have hnx : bits .xor .u32 ((rcrcN n0 bs : Nat) : Int) 4294967295 = ((rcrcN n0 bs ^^^ 4294967295 : Nat) : Int) := u32_xor_nat _ 4294967295 hlt2 (by decide)
   go_wp2
   go_ret
   exact ⟨by rw [E0.out]; rfl, rfl⟩
theorem rsum_calls (bs : List Int) (hbig : bs.length ≤ 1000000000) (hb : ∀ c ∈ bs, 0 ≤ c ∧ c ≤ 255) (A : Option Addr) (c : Nat) (w : World) (h : SliceR 1 (.slice A bs.length c) bs.length (u8s bs) w) :
    Calls Tryz.prog 73 #[.slice A bs.length c] w fun e w' => e = .returned (.int .u32 (moreN 0 bs : Nat)) ∧ w = w' := by
 have HM := LH (rcmore_calls 0 (by decide) bs hbig hb A c w h)
 clear h hb
 go_enter Tryz.func73, Tryz.ntmps73
 go_wp2_with fail
 refine HM.out.mono ?_
 rintro e w1 ⟨rfl, rfl⟩
 go_wp2
 go_ret
 exact ⟨rfl, rfl⟩
theorem rsizes_calls (a : List (List Int)) (A : Option Addr) (c : Nat) (w : World) (h : RowsR .u64 a (.slice A a.length c) w) (ha : a.length ≤ 100000) :
    Calls Tryz.prog 70 #[.slice A a.length c] w fun e w' => ∃ A c, e = .returned (.slice A (szs a).length c) ∧ Grow w w' ∧ w'.ownsRow w.heap.size 3 1 (.slice A (szs a).length c) (szs a).length (ints (szs a)) := by
 have H := LH h
 clear h
 go_enter Tryz.func70, Tryz.ntmps70
 go_wp2
 go_loopw [3, 4] (fun vo v wr => ∃ k : Nat, k ≤ a.length ∧ v = .int .i64 k ∧ ∃ A4 c4, vo = .slice A4 k c4 ∧ Hid (Grow w wr ∧ wr.ownsRow w.heap.size 3 1 (.slice A4 k c4) k (ints ((szs a).take k)))) (fun _ v _ => a.length - (intOf v).toNat)
 case atStart => exact ⟨0, by omega, rfl, none, 0, rfl, Keep.refl _ _, by simpa [ints] using World.ownsRow_nil w w.heap.size 3 1⟩
 case round =>
  obtain ⟨k, hk, rfl, A4, c4, rfl, HS⟩ := hrel
  by_cases hlt : k < a.length
  ·obtain ⟨ad, A', c', rfl, h2, _⟩ := (H.out.grow HS.out.1).at_ k hlt
   have hw : IntKind.i64.wrap ((k : Int) + 1) = (k : Int) + 1 := IntWalk.i64_in _ (by omega)
   have hlt' : (k : Int) < a.length := by omega
   have e1 : ints ((szs a).take (k + 1)) = ints ((szs a).take k) ++ [.int .i64 a[k].length] := by
    rw [List.take_succ_eq_append_getElem (by simpa [szs] using hlt)]
    simp [ints, szs]
   have E1 := LH e1
   clear e1
   go_wp2_with (at_builtin; refine wpList_app _ rfl _ _ 37 37 rfl w.heap.size 3 (.int .i64 0) 1 8 u_ints info_int rfl (.slice A4 k c4) k (ints ((szs a).take k)) rfl (.slice (some ⟨wr.heap.size, 0, none⟩) 1 1) 1 [.int .i64 a[k].length] rfl ?_ (by exact own_keep HS.out.2 ((Keep.refl NoB wr).alloc _) (fun _ _ h => h)) (by exact Src.ofSlice _ u_ints ⟨wr.heap.size, 0, none⟩ 1 1 _ rfl (World.news_of_block (cs := #[.int .i64 a[k].length]) (t := 3) (fr := (0, 0)) (heap_alloc_new wr _)) (by simp [Value.oneCell'])) (by simp only [maxLen]; omega) (by omega) (by have := HS.out.1.size; simp; omega); intro v2 w2 hap; refine Hid.out ?_)
   refine LH ?_
   have Hg2 : Hid (Grow w w2) := ((((HS.out.1.mono (T := fun k => w.heap.size ≤ k) (fun _ h => h.elim)).alloc _).grown hap.grew (fun k hk => .inl (HS.out.2.lt k hk).1))).new (fun _ h => h)
   have Ho2 := LH hap.own
   obtain ⟨A6, c6, rfl, _⟩ := own_slice hap.own
   clear hap
   rw [← E1.out] at Ho2
   go_wp2
   go_roundw
   case rel => exact ⟨k + 1, by omega, by go_num, A6, c6, rfl, Hg2.out, Ho2.out⟩
   case measure => simp [intOf]; omega
  ·obtain rfl : k = a.length := by omega
   have hlt' : ¬ ((a.length : Int) < a.length) := by omega
   go_wp2
   go_ret
   have ho := HS.out.2
   rw [← szs_length a, List.take_length] at ho
   exact ⟨A4, c4, by rw [szs_length]; rfl, HS.out.1, ho⟩
theorem take_succ_nn {l : List Int} (h0 : ∀ x ∈ l, 0 ≤ x) (k : Nat) (hk : k < l.length) : l[k] ≤ l.sum - (l.take k).sum := by
 have h1 := sum_take_succ hk
 have h2 := sum_take_le h0 (k + 1)
 omega
theorem rfits_true (A : Option Addr) (c : Nat) (l : List Int) (w : World) (h : SliceR 1 (.slice A l.length c) l.length (ints l) w) (hf : fitsB l = true) :
    Calls Tryz.prog 144 #[.slice A l.length c] w fun e w' => e = .returned (.bool true) ∧ w = w' := by
 have H := LH h
 obtain ⟨hl1, hl2, hnn, hsum⟩ := fits_parts hf
 have hx0 : 1 ≤ l[0] := by
  unfold fitsB at hf
  simp only [decide_eq_true_eq] at hf
  have := hf.2.2.1
  cases l with
  | nil => simp at hl1
  | cons x r => simpa using this
 have HN := LH hnn
 clear h hnn hf
 have h1 : ¬ ((l.length : Int) < 1) := by omega
 have h2 : ¬ ((16 : Int) < l.length) := by omega
 obtain ⟨ad, rfl, q0⟩ := SliceR.int_at (k := .i64) H.out 0 (by omega)
 have q0' : w.cell? ad = some (.int .i64 l[0]) := by simpa [Addr.add] using q0
 have hx : ¬ (l[0] < 1) := by omega
 clear q0
 go_enter Tryz.func144, Tryz.ntmps144
 go_wp2
 clear q0' hx hx0
 go_loopw [3, 4] (fun vn v wr => wr = w ∧ ∃ (k : Nat) (s : Int), k ≤ l.length ∧ v = .int .i64 k ∧ vn = .int .i64 s ∧ Hid (s = (l.take k).sum) ∧ 0 ≤ s ∧ s ≤ 4096) (fun _ v _ => l.length - (intOf v).toNat)
 case atStart => exact ⟨rfl, 0, 0, by omega, rfl, rfl, LH (by simp), by omega, by omega⟩
 case round =>
  obtain ⟨rfl, k, s, hk, rfl, rfl, HS, hs0, hs1⟩ := hrel
  by_cases hlt : k < l.length
  ·obtain ⟨ad2, e, q1⟩ := SliceR.int_at (k := .i64) H.out k hlt
   injection e with e
   subst e
   have hw : IntKind.i64.wrap ((k : Int) + 1) = (k : Int) + 1 := IntWalk.i64_in _ (by omega)
   have hlt' : (k : Int) < l.length := by omega
   have hsu := sum_take_succ hlt
   have hle := take_succ_nn HN.out k hlt
   have hn0 : 0 ≤ l[k] := HN.out _ (List.getElem_mem hlt)
   have hs9 := HS.out
   have hw2 : IntKind.i64.wrap (4096 - s) = 4096 - s := IntWalk.i64_in _ (by omega)
   have hw3 : IntKind.i64.wrap (s + l[k]) = s + l[k] := IntWalk.i64_in _ (by omega)
   have hb1 : ¬ (l[k] < 0) := by omega
   have hb2 : ¬ (4096 - s < l[k]) := by omega
   have HR : Hid (s + l[k] = (l.take (k + 1)).sum ∧ 0 ≤ s + l[k] ∧ s + l[k] ≤ 4096) := LH ⟨by omega, by omega, by omega⟩
   clear hsu hle hs9
   go_wp2
   go_roundw
   case rel => exact ⟨trivial, k + 1, s + l[k], by omega, by go_num, rfl, LH HR.out.1, HR.out.2.1, HR.out.2.2⟩
   case measure => simp [intOf]; omega
  ·obtain rfl : k = l.length := by omega
   have hlt' : ¬ ((l.length : Int) < l.length) := by omega
   go_wp2
   go_ret
   exact ⟨rfl, rfl⟩
theorem rright_true (a : List (List Int)) (A : Option Addr) (c : Nat) (w : World) (h : RowsR .u64 a (.slice A a.length c) w) (hf : fitsB (szs a) = true) :
    Calls Tryz.prog 69 #[.slice A a.length c] w fun e w' => e = .returned (.bool true) ∧ Grow w w' := by
 have hl := (fits_parts hf).2.1
 rw [szs_length] at hl
 have HS := LH (rsizes_calls a A c w h (by omega))
 have HF := LH hf
 clear h hf hl
 go_enter Tryz.func69, Tryz.ntmps69
 go_wp2_with fail
 refine HS.out.mono ?_
 rintro e w1 ⟨A1, c1, rfl, hg, ho⟩
 have HO := LH (SliceR.of_own ho)
 have HG := LH hg
 clear hg ho
 go_wp2_with fail
 refine (rfits_true A1 c1 (szs a) w1 HO.out HF.out).mono ?_
 rintro e w2 ⟨rfl, rfl⟩
 go_wp2
 go_ret
 exact ⟨rfl, HG.out⟩
def rB (ws : List Int) : List Int := ws.flatMap (fun x => putB x 8)
theorem rB_snoc (ws : List Int) (x : Int) : rB (ws ++ [x]) = rB ws ++ putB x 8 := by simp [rB]
theorem rB_length (ws : List Int) : (rB ws).length = 8 * ws.length := by
 induction ws with
 | nil => rfl
 | cons x r ih => simp [rB, putB_length] at ih ⊢; omega
theorem u8s_app (a b : List Int) : u8s (a ++ b) = u8s a ++ u8s b := by simp [u8s]
theorem rB_upto (ws : List Int) (hn : ∀ x ∈ ws, 0 ≤ x ∧ x ≤ 18446744073709551615) : ∀ k, k ≤ ws.length → bytesW (upto (fun k => (k, wat ws k)) k) = rB (ws.take k)
 | 0, _ => by simp [upto, bytesW, rB]
 | k + 1, h => by
  have hk : k < ws.length := by omega
  have hv : (wat ws k).1 = ws[k] := by
   have := hn _ (List.getElem_mem hk)
   unfold wat
   have e : ws[k]?.getD 0 = ws[k] := by rw [List.getElem?_eq_getElem hk]; rfl
   rw [e, dif_pos this]
  rw [upto_succ, List.take_succ_eq_append_getElem hk, rB_snoc, ← rB_upto ws hn k (by omega)]
  simp [bytesW, hv]
theorem arenaB_eq (a : List (List Int)) (ho : OkA a) : arenaB a = rB a.flatten := by
 unfold arenaB
 rw [rB_upto a.flatten (fun x hx => by
  obtain ⟨s, hs, h⟩ := List.mem_flatten.1 hx
  exact ho.nums s hs x h) _ (Nat.le_refl _), List.take_length]
theorem flat_take_len (a : List (List Int)) (i : Nat) (hi : i < a.length) (k : Nat) (hk : k ≤ a[i].length) : ((a.take i).flatten ++ a[i].take k).length ≤ a.flatten.length := by
 have h1 : (a.take (i + 1)).flatten.length ≤ a.flatten.length := by
  conv => rhs; rw [← List.take_append_drop (i + 1) a, List.flatten_append, List.length_append]
  omega
 rw [List.take_succ_eq_append_getElem hi, List.flatten_append, List.length_append] at h1
 have e : ([a[i]] : List (List Int)).flatten.length = a[i].length := by simp
 rw [e] at h1
 rw [List.length_append, List.length_take]
 omega
theorem rbytes_calls (a : List (List Int)) (ho : OkA a) (hfl : a.flatten.length ≤ 1000000) (A : Option Addr) (c : Nat) (w : World) (h : RowsR .u64 a (.slice A a.length c) w) :
    Calls Tryz.prog 72 #[.slice A a.length c] w fun e w' => ∃ A c, e = .returned (.slice A (rB a.flatten).length c) ∧ Grow w w' ∧ w'.ownsRow w.heap.size 5 1 (.slice A (rB a.flatten).length c) (rB a.flatten).length (u8s (rB a.flatten)) := by
 have H := LH h
 have HO := LH ho
 have HFL := LH hfl
 have hseg := ho.segs
 clear h ho hfl
 go_enter Tryz.func72, Tryz.ntmps72
 go_wp2
 go_loopw [3, 4, 5, 6] (fun vo v v5 v6 wr => ∃ i : Nat, i ≤ a.length ∧ v = .int .i64 i ∧ ∃ A4 c4, vo = .slice A4 (rB (a.take i).flatten).length c4 ∧ Hid (Grow w wr ∧ wr.ownsRow w.heap.size 5 1 (.slice A4 (rB (a.take i).flatten).length c4) (rB (a.take i).flatten).length (u8s (rB (a.take i).flatten)))) (fun _ v _ _ _ => a.length - (intOf v).toNat)
 case atStart => exact ⟨0, by omega, rfl, none, 0, by simp [rB], Keep.refl _ _, by simpa [rB, u8s] using World.ownsRow_nil w w.heap.size 5 1⟩
 case round =>
  obtain ⟨i, hi, rfl, A4, c4, rfl, HS⟩ := hrel
  by_cases hlt : i < a.length
  ·have hw : IntKind.i64.wrap ((i : Int) + 1) = (i : Int) + 1 := IntWalk.i64_in _ (by omega)
   have hlt' : (i : Int) < a.length := by omega
   go_wp2_with fail
   obtain ⟨wo, rfl⟩ : ∃ wo : World, wo = wr := ⟨_, rfl⟩
   go_loopw [3, 5, 6] (fun vo v v6 wr => ∃ k : Nat, k ≤ a[i].length ∧ v = .int .i64 k ∧ ∃ A4 c4 n, vo = .slice A4 n c4 ∧ Hid (n = (rB ((a.take i).flatten ++ a[i].take k)).length ∧ Grow w wr ∧ wr.ownsRow w.heap.size 5 1 (.slice A4 n c4) n (u8s (rB ((a.take i).flatten ++ a[i].take k))))) (fun _ v _ _ => a[i].length - (intOf v).toNat)
   case atStart => exact ⟨0, by omega, rfl, A4, c4, _, rfl, by simp, HS.out.1, by simpa using HS.out.2⟩
   case round =>
    obtain ⟨k, hk, rfl, A5, c5, n5, rfl, HS5⟩ := hrel
    obtain ⟨ad, A', c', rfl, h2, h3⟩ := (H.out.grow HS5.out.2.1).at_ i hlt
    have hwl : a[i].length ≤ 100000 := HO.out.words _ (List.getElem_mem hlt)
    have hn5 := HS5.out.1
    rw [rB_length] at hn5
    have hfk := flat_take_len a i hlt k hk
    have hn9 : n5 ≤ 8000000 := by have := HFL.out; omega
    by_cases hkl : k < a[i].length
    ·have hwk : IntKind.i64.wrap ((k : Int) + 1) = (k : Int) + 1 := IntWalk.i64_in _ (by omega)
     have hkl' : (k : Int) < a[i].length := by omega
     obtain ⟨ad2, rfl, q2⟩ := SliceR.int_at (k := .u64) h3 k hkl
     have hx := HO.out.nums _ (List.getElem_mem hlt) _ (List.getElem_mem hkl)
     have HX := LH hx
     have E1 : Hid (u8s (rB ((a.take i).flatten ++ a[i].take (k + 1))) = u8s (rB ((a.take i).flatten ++ a[i].take k)) ++ u8s (putB a[i][k] 8)) := LH (by
      rw [List.take_succ_eq_append_getElem hkl, ← List.append_assoc, rB_snoc, u8s_app])
     have E2 : Hid (n5 + 8 = (rB ((a.take i).flatten ++ a[i].take (k + 1))).length) := LH (by
      rw [rB_length, List.take_succ_eq_append_getElem hkl, ← List.append_assoc, List.length_append]
      simp only [List.length_singleton]
      omega)
     clear hx hn5 hfk h3
     go_wp2_with fail
     refine (rput_calls a[i][k] 8 wr HX.out.1 HX.out.2 (Nat.le_refl _)).mono ?_
     rintro e w2 ⟨A6, c6, rfl, hg2, ho2⟩
     rw [putB_length] at ho2
     have HG2 := LH (HS5.out.2.1.grow hg2)
     have HO5 := LH (own_keep HS5.out.2.2 hg2 (fun _ _ h => h))
     have HO2 := LH (SliceR.of_own ho2)
     rw [putB_length]
     clear hg2 ho2
     go_wp2_with (at_builtin; refine wpList_app _ rfl _ _ 23 23 rfl w.heap.size 5 (.int .u8 0) 1 1 u_bytes info_u8 rfl (.slice A5 n5 c5) n5 (u8s (rB ((a.take i).flatten ++ a[i].take k))) rfl (.slice A6 8 c6) 8 (u8s (putB a[i][k] 8)) rfl ?_ (by exact HO5.out) (by exact SliceR.src HO2.out u_bytes (u8s_one _)) (by simp only [maxLen]; omega) (by omega) (by exact HG2.out.size); intro v3 w3 hap; refine Hid.out ?_)
     refine LH ?_
     have Hg3 : Hid (Grow w w3) := LH (((HG2.out.mono (T := fun k => w.heap.size ≤ k) (fun _ h => h.elim)).grown hap.grew (fun k hk => .inl (HO5.out.lt k hk).1)).new (fun _ h => h))
     have Ho3 := LH hap.own
     obtain ⟨A7, c7, rfl, _⟩ := own_slice hap.own
     clear hap
     rw [← E1.out] at Ho3
     go_wp2
     go_roundw
     case rel => exact ⟨k + 1, by omega, by go_num, A7, c7, _, rfl, E2.out, Hg3.out, Ho3.out⟩
     case measure => simp [intOf]; omega
    ·obtain rfl : k = a[i].length := by omega
     have hkl' : ¬ ((a[i].length : Int) < a[i].length) := by omega
     have HF : Hid (n5 = (rB (a.take (i + 1)).flatten).length ∧ u8s (rB ((a.take i).flatten ++ a[i].take a[i].length)) = u8s (rB (a.take (i + 1)).flatten)) := LH (by
      have e : (a.take (i + 1)).flatten = (a.take i).flatten ++ a[i].take a[i].length := by
       rw [List.take_succ_eq_append_getElem hlt, List.flatten_append, List.take_length]; simp
      rw [e]
      exact ⟨HS5.out.1, rfl⟩)
     have HO5 := LH HS5.out.2.2
     have HG5 := LH HS5.out.2.1
     rw [HF.out.2, HF.out.1] at HO5
     clear hn5 hfk h3
     go_wp2
     go_roundw
     case rel => exact ⟨i + 1, by omega, by go_num, A5, c5, by rw [HF.out.1], HG5.out, HO5.out⟩
     case measure => simp [intOf]; omega
  ·obtain rfl : i = a.length := by omega
   have hlt' : ¬ ((a.length : Int) < a.length) := by omega
   rw [List.take_length] at HS ⊢
   go_wp2
   go_ret
   exact ⟨A4, c4, rfl, HS.out.1, HS.out.2⟩
structure OfR (w : World) (B6 : Nat) (session : Int) (zs : List Int) (A3 : Option Addr) (c3 : Nat) (F : Nat → Prop) (c : World) : Prop where
 grow : Grow w c
 z : c.heap[w.heap.size]? = some (.cells #[.int .u64 0, .slice none 0 0, .int .u32 0] 40 (0, 0))
 m : c.heap[B6]? = some (.cells #[.int .u64 session, .slice A3 zs.length c3, .int .u32 0] 40 (0, 0))
 s : Foot (SliceR 1 (.slice A3 zs.length c3) zs.length (ints zs)) c F
 hF : ∀ k, F k → k < B6
 lo : w.heap.size < B6
theorem OfR.keep {w : World} {B6 : Nat} {session : Int} {zs : List Int} {A3 : Option Addr} {c3 : Nat} {F : Nat → Prop} {c c' : World} (h : OfR w B6 session zs A3 c3 F c) (hk : Keep (fun j => B6 < j) c c') : OfR w B6 session zs A3 c3 F c' := by
 have hB := (gE h.m).1
 refine ⟨((h.grow.mono (T := fun j => w.heap.size ≤ j) (fun _ h => h.elim)).trans hk (fun j hj => .inl (by have := h.lo; omega))).new (fun j hj => hj), (hk.block _ (Nat.lt_trans h.lo hB) (by have := h.lo; omega)).trans h.z, (hk.block _ hB (by omega)).trans h.m, h.s.keep hk (fun k hk2 => by have := h.hF k hk2; omega), h.hF, h.lo⟩
theorem OfR.later {w : World} {B6 : Nat} {session : Int} {zs : List Int} {A3 : Option Addr} {c3 : Nat} {F : Nat → Prop} {c c' : World} (h : OfR w B6 session zs A3 c3 F c) (hg : Grow c c') : OfR w B6 session zs A3 c3 F c' := h.keep (hg.mono (fun _ h => h.elim))
def zB (zs : List Int) : List Int := zs.flatMap (fun x => putB x 2)
theorem zB_snoc (zs : List Int) (x : Int) : zB (zs ++ [x]) = zB zs ++ putB x 2 := by simp [zB]
theorem zB_length (zs : List Int) : (zB zs).length = 2 * zs.length := by
 induction zs with
 | nil => rfl
 | cons x r ih => simp [zB, putB_length] at ih ⊢; omega
theorem zB_in (zs : List Int) : ∀ c ∈ zB zs, 0 ≤ c ∧ c ≤ 255 := fun c hc => by
 obtain ⟨x, _, h⟩ := List.mem_flatMap.1 hc
 exact putB_in _ _ c h
theorem rB_in (ws : List Int) : ∀ c ∈ rB ws, 0 ≤ c ∧ c ≤ 255 := fun c hc => by
 obtain ⟨x, _, h⟩ := List.mem_flatMap.1 hc
 exact putB_in _ _ c h
theorem maniB_eq (session : Int) (a : List (List Int)) (ho : OkA a) : maniB session a = putB session 8 ++ zB (szs a) ++ rB a.flatten := by
 unfold maniB
 rw [arenaB_eq a ho]
 rfl
def ROfPost (session : Int) (a : List (List Int)) (w : World) (e : Ending) (w' : World) : Prop :=
 ∃ A c, e = .returned (.tuple #[.agg #[.int .u64 session, .slice A (szs a).length c, .int .u32 (sumP session a : Nat)], .int .i64 0]) ∧ Grow w w' ∧ SliceR 1 (.slice A (szs a).length c) (szs a).length (ints (szs a)) w' ∧ ∃ F, Foot (SliceR 1 (.slice A (szs a).length c) (szs a).length (ints (szs a))) w' F ∧ ∀ k, F k → w.heap.size ≤ k
theorem rmof_calls (session : Int) (h0 : 0 ≤ session) (h1 : session ≤ 18446744073709551615) (a : List (List Int)) (ho : OkA a) (hfit : fitsB (szs a) = true) (hfl : a.flatten.length ≤ 1000000) (A : Option Addr) (c : Nat) (w : World) (hR : RowsR .u64 a (.slice A a.length c) w) :
    Calls Tryz.prog 18 #[.int .u64 session, .slice A a.length c] w (ROfPost session a w) := by
 have hg0 := (Keep.refl NoB w).alloc (.cells #[.int .u64 0, .slice none 0 0, .int .u32 0] 40)
 have HZ := LH (heap_alloc_new w (.cells #[.int .u64 0, .slice none 0 0, .int .u32 0] 40))
 have HG := LH hg0
 have HR0 := LH hR
 have H := LH (hR.grow hg0)
 have EM := LH (maniB_eq session a ho)
 have HO := LH ho
 have HF := LH hfit
 have HFL := LH hfl
 have HS01 := LH (And.intro h0 h1)
 clear hR ho hg0 hfit h0 h1 hfl
 go_enter Tryz.func18, Tryz.ntmps18
 go_wp2_with fail
 refine (rright_true a A c _ H.out HF.out).mono ?_
 rintro e w1 ⟨rfl, hg⟩
 replace HZ := LH (Grow.heap hg HZ.out)
 replace HG := LH (HG.out.grow hg)
 replace H := LH (H.out.grow hg)
 clear hg
 go_wp2_with fail
 refine (rsizes_calls a A c w1 H.out HO.out.segs).mono ?_
 rintro e w2 ⟨A3, c3, rfl, hg, hoz⟩
 have hg6 := (Keep.refl NoB w2).alloc (.cells #[.int .u64 session, .slice A3 (szs a).length c3, .int .u32 0] 40)
 have HM : Hid (OfR w w2.heap.size session (szs a) A3 c3 (fun k => (Value.slice A3 (szs a).length c3).ownBlock = some k) (w2.alloc (.cells #[.int .u64 session, .slice A3 (szs a).length c3, .int .u32 0] 40))) :=
  LH ⟨(HG.out.grow hg).grow hg6, Grow.heap (hg.grow hg6) HZ.out, heap_alloc_new w2 _, (Foot.of_own hoz).grow hg6, fun k hk => (hoz.lt k hk).2, by
   have h1 := (gE HZ.out).1
   have := hg.size
   omega⟩
 have HFZ : Hid (∀ k, (Value.slice A3 (szs a).length c3).ownBlock = some k → ¬ k = w.heap.size) := LH (fun k hk e => by
  have h1 := (gE HZ.out).1
  have h2 := (hoz.lt k hk).1
  omega)
 have HFY : Hid (∀ k, (Value.slice A3 (szs a).length c3).ownBlock = some k → w.heap.size ≤ k) := LH (fun k hk => by
  have h1 := (gE HZ.out).1
  have h2 := (hoz.lt k hk).1
  omega)
 replace H := LH (H.out.grow (hg.grow hg6))
 have hszl := (fits_parts HF.out).2.1
 clear hg hoz hg6 HZ HG
 go_wp2_with fail
 refine (rput_calls session 8 _ HS01.out.1 HS01.out.2 (Nat.le_refl _)).mono ?_
 rintro e w3 ⟨A4, c4, rfl, hg, hob⟩
 rw [show (w2.alloc (.cells #[.int .u64 session, .slice A3 (szs a).length c3, .int .u32 0] 40)).heap.size = w2.heap.size + 1 from by simp] at hob
 replace HM := LH (HM.out.later hg)
 replace H := LH (H.out.grow hg)
 have HB := LH hob
 clear hg hob
 go_wp2_with fail
 go_loopw [7, 8, 9] (fun vo v v9 wr => ∃ i : Nat, i ≤ (szs a).length ∧ v = .int .i64 i ∧ ∃ A5 c5 n, vo = .slice A5 n c5 ∧ Hid (n = (putB session 8 ++ zB ((szs a).take i)).length ∧ Keep (fun j => w2.heap.size < j) w3 wr ∧ wr.ownsRow (w2.heap.size + 1) 5 1 (.slice A5 n c5) n (u8s (putB session 8 ++ zB ((szs a).take i))))) (fun _ v _ _ => (szs a).length - (intOf v).toNat)
 case atStart => exact ⟨0, by omega, rfl, A4, c4, _, rfl, by simp [zB], Keep.refl _ _, by simpa [zB] using HB.out⟩
 case round =>
  obtain ⟨i, hi, rfl, A5, c5, n5, rfl, HS5⟩ := hrel
  have HM5 := LH (HM.out.keep HS5.out.2.1)
  obtain ⟨m0, m1, m2, mf⟩ := cells3 HM5.out.m
  have hn5 := HS5.out.1
  rw [List.length_append, putB_length, zB_length, List.length_take, Nat.min_eq_left hi] at hn5
  have hn9 : n5 ≤ 1000 := by omega
  by_cases hlt : i < (szs a).length
  ·have hw : IntKind.i64.wrap ((i : Int) + 1) = (i : Int) + 1 := IntWalk.i64_in _ (by omega)
   have hlt' : (i : Int) < (szs a).length := by omega
   obtain ⟨ad2, rfl, q2⟩ := SliceR.int_at (k := .i64) HM5.out.s.now i hlt
   obtain ⟨hz1, hz2, hznn, hzs⟩ := fits_parts HF.out
   have hx0 := hznn _ (List.getElem_mem hlt)
   have hx1 := take_succ_nn hznn i hlt
   have hx2 := sum_take_le hznn i
   have hx3 : 0 ≤ ((szs a).take i).sum := by
    have := sum_take_le (l := (szs a).take i) (fun x hx => hznn x (List.mem_of_mem_take hx)) 0
    simpa using this
   have hx4 : (szs a)[i] ≤ 4096 := by omega
   have E1 : Hid (u8s (putB session 8 ++ zB ((szs a).take (i + 1))) = u8s (putB session 8 ++ zB ((szs a).take i)) ++ u8s (putB (szs a)[i] 2)) := LH (by
    rw [List.take_succ_eq_append_getElem hlt, zB_snoc, ← List.append_assoc, u8s_app])
   have E2 : Hid (n5 + 2 = (putB session 8 ++ zB ((szs a).take (i + 1))).length) := LH (by
    rw [List.length_append, putB_length, zB_length, List.length_take, Nat.min_eq_left hlt]; omega)
   clear hz1 hz2 hznn hzs hx1 hx2 hx3 hn5
   go_wp2_with fail
   refine (rput_calls (szs a)[i] 2 wr hx0 (by omega) (by omega)).mono ?_
   rintro e w5 ⟨A6, c6, rfl, hg, ho⟩
   rw [putB_length] at ho ⊢
   have HK5 := LH (HS5.out.2.1.grow hg)
   have HO5 := LH (own_keep HS5.out.2.2 hg (fun _ _ h => h))
   have HO6 := LH (SliceR.of_own ho)
   have HSZ : Hid (w2.heap.size + 1 ≤ w5.heap.size) := LH (by have := (gE (HM5.out.later hg).m).1; omega)
   clear hg ho
   go_wp2_with (at_builtin; refine wpList_app _ rfl _ _ 23 23 rfl (w2.heap.size + 1) 5 (.int .u8 0) 1 1 u_bytes info_u8 rfl (.slice A5 n5 c5) n5 (u8s (putB session 8 ++ zB ((szs a).take i))) rfl (.slice A6 2 c6) 2 (u8s (putB (szs a)[i] 2)) rfl ?_ (by exact HO5.out) (by exact SliceR.src HO6.out u_bytes (u8s_one _)) (by simp only [maxLen]; omega) (by omega) (by exact HSZ.out); intro v7 w7 hap; refine Hid.out ?_)
   refine LH ?_
   have HK7 := LH (HK5.out.grown hap.grew (fun k hk => .inl (by have := (HO5.out.lt k hk).1; omega)))
   have Ho7 := LH hap.own
   obtain ⟨A7, c7, rfl, _⟩ := own_slice hap.own
   clear hap m0 m1 m2 mf
   rw [← E1.out] at Ho7
   go_wp2
   go_roundw
   case rel => exact ⟨i + 1, by omega, by go_num, A7, c7, _, rfl, E2.out, HK7.out, Ho7.out⟩
   case measure => simp [intOf]; omega
  ·obtain rfl : i = (szs a).length := by omega
   have hlt' : ¬ (((szs a).length : Int) < (szs a).length) := by omega
   rw [List.take_length] at HS5
   have HH := LH (HR0.out.grow HM5.out.grow)
   clear hn5 hszl
   go_wp2_with fail
   clear m0 m1 m2 mf
   refine (rbytes_calls a HO.out HFL.out A c wr HH.out).mono ?_
   rintro e w6 ⟨A8, c8, rfl, hg, ho8⟩
   have HK6 := LH (HS5.out.2.1.grow hg)
   have HO6 := LH (own_keep HS5.out.2.2 hg (fun _ _ h => h))
   have HO8 := LH (SliceR.of_own ho8)
   have HSZ : Hid (w2.heap.size + 1 ≤ w6.heap.size) := LH (by have := (gE (HM5.out.later hg).m).1; omega)
   have hrl : (rB a.flatten).length ≤ 8000000 := by rw [rB_length]; have := HFL.out; omega
   clear hg ho8
   go_wp2_with (at_builtin; refine wpList_app _ rfl _ _ 23 23 rfl (w2.heap.size + 1) 5 (.int .u8 0) 1 1 u_bytes info_u8 rfl (.slice A5 n5 c5) n5 (u8s (putB session 8 ++ zB (szs a))) rfl (.slice A8 (rB a.flatten).length c8) (rB a.flatten).length (u8s (rB a.flatten)) rfl ?_ (by exact HO6.out) (by exact SliceR.src HO8.out u_bytes (u8s_one _)) (by simp only [maxLen]; omega) (by omega) (by exact HSZ.out); intro v7 w7 hap; refine Hid.out ?_)
   refine LH ?_
   have HK7 := LH (HK6.out.grown hap.grew (fun k hk => .inl (by have := (HO6.out.lt k hk).1; omega)))
   have hown := hap.own
   rw [← u8s_app, ← EM.out, show n5 + (rB a.flatten).length = (maniB session a).length from by rw [EM.out, List.length_append, ← HS5.out.1]] at hown
   obtain ⟨A7, c7, rfl, _⟩ := own_slice hown
   have Ho7 := LH (SliceR.of_own hown)
   have hml : (maniB session a).length ≤ 1000000000 := by rw [EM.out, List.length_append, ← HS5.out.1]; omega
   have hmi : ∀ c ∈ maniB session a, 0 ≤ c ∧ c ≤ 255 := by
    rw [EM.out]
    intro x hx
    rcases List.mem_append.1 hx with hx | hx
    ·rcases List.mem_append.1 hx with hx | hx
     ·exact putB_in _ _ x hx
     ·exact zB_in _ x hx
    ·exact rB_in _ x hx
   have HMI := LH hmi
   have HM7 := LH (HM.out.keep HK7.out)
   clear hap hown hmi
   go_wp2_with fail
   refine (rsum_calls (maniB session a) hml HMI.out A7 c7 w7 Ho7.out).mono ?_
   rintro e w8 ⟨rfl, rfl⟩
   have E9 : Hid (moreN 0 (maniB session a) = sumP session a) := LH rfl
   rw [E9.out]
   obtain ⟨sm, HSM⟩ : ∃ sm, Hid (sumP session a = sm) := ⟨_, LH rfl⟩
   rw [HSM.out]
   obtain ⟨m0, m1, m2, mf⟩ := cells3 HM7.out.m
   have hlo := HM7.out.lo
   have hW1m : (w7.setCell ⟨w2.heap.size, 2, none⟩ (.int .u32 (sm : Nat))).heap[w2.heap.size]? = some (.cells #[.int .u64 session, .slice A3 (szs a).length c3, .int .u32 (sm : Nat)] 40 (0, 0)) := by
    have h0 := HM7.out.m
    simp only [World.setCell, Array.getElem?_modify]
    simp [h0]
   have hk1 : Keep (fun j => j = w2.heap.size) w7 (w7.setCell ⟨w2.heap.size, 2, none⟩ (.int .u32 (sm : Nat))) := (Keep.refl (fun j => j = w2.heap.size) w7).setCell (p := ⟨w2.heap.size, 2, none⟩) (.inl rfl) _
   have hW1z := (hk1.block w.heap.size (gE HM7.out.z).1 (by omega)).trans HM7.out.z
   have hW1g : Grow w (w7.setCell ⟨w2.heap.size, 2, none⟩ (.int .u32 (sm : Nat))) := HM7.out.grow.setCell (p := ⟨w2.heap.size, 2, none⟩) (.inr (by show w.heap.size ≤ w2.heap.size; omega)) _
   have hW1s := HM7.out.s.keep hk1 (fun k hk e => by have := HM7.out.hF k hk; omega)
   obtain ⟨x0, x1, x2, xf⟩ := cells3 hW1m
   obtain ⟨y0, y1, y2, yf⟩ := cells3 hW1z
   obtain ⟨hs3, hg3⟩ := stored3 (.int .u64 session) (.slice A3 (szs a).length c3) (.int .u32 (sm : Nat)) hW1g (Nat.le_refl _) hW1z
   have hk3 : Keep (fun j => j = w.heap.size) (w7.setCell ⟨w2.heap.size, 2, none⟩ (.int .u32 (sm : Nat))) ((((w7.setCell ⟨w2.heap.size, 2, none⟩ (.int .u32 (sm : Nat))).setCell ⟨w.heap.size, 0, none⟩ (.int .u64 session)).setCell ⟨w.heap.size, 1, none⟩ (.slice A3 (szs a).length c3)).setCell ⟨w.heap.size, 2, none⟩ (.int .u32 (sm : Nat))) :=
    ((((Keep.refl (fun j => j = w.heap.size) _).setCell (p := ⟨w.heap.size, 0, none⟩) (.inl rfl) _).setCell (p := ⟨w.heap.size, 1, none⟩) (.inl rfl) _).setCell (p := ⟨w.heap.size, 2, none⟩) (.inl rfl) _)
   have HFIN : Hid (ROfPost session a w (.returned (.tuple #[.agg #[.int .u64 session, .slice A3 (szs a).length c3, .int .u32 (sm : Nat)], .int .i64 0])) ((((w7.setCell ⟨w2.heap.size, 2, none⟩ (.int .u32 (sm : Nat))).setCell ⟨w.heap.size, 0, none⟩ (.int .u64 session)).setCell ⟨w.heap.size, 1, none⟩ (.slice A3 (szs a).length c3)).setCell ⟨w.heap.size, 2, none⟩ (.int .u32 (sm : Nat)))) :=
    LH ⟨A3, c3, by rw [HSM.out], hg3, (hW1s.keep hk3 (fun k hk e => HFZ.out k hk e)).now, _, hW1s.keep hk3 (fun k hk e => HFZ.out k hk e), HFY.out⟩
   have HS3 := LH hs3
   clear hW1m hk1 hW1z hW1g hW1s hs3 hg3 hk3 hlo
   go_wp2
   revert HS3 HFIN
   generalize ((((w7.setCell ⟨w2.heap.size, 2, none⟩ (.int .u32 (sm : Nat))).setCell ⟨w.heap.size, 0, none⟩ (.int .u64 session)).setCell ⟨w.heap.size, 1, none⟩ (.slice A3 (szs a).length c3)).setCell ⟨w.heap.size, 2, none⟩ (.int .u32 (sm : Nat))) = w9
   intro HFIN HS3
   obtain ⟨y0, y1, y2, yf⟩ := cells3 HS3.out
   refine bodyPost_ret (v := .tuple #[.agg #[.int .u64 session, .slice A3 (szs a).length c3, .int .u32 (sm : Nat)], .int .i64 0]) ?_ rfl HFIN.out
   rw [results_cell_tmp rfl]; go_simp
theorem rmright_true (session sum : Int) (l : List Int) (A : Option Addr) (c : Nat) (w : World) (h : SliceR 1 (.slice A l.length c) l.length (ints l) w) (hf : fitsB l = true) :
    Calls Tryz.prog 83 #[.agg #[.int .u64 session, .slice A l.length c, .int .u32 sum]] w fun e w' => e = .returned (.bool true) ∧ Grow w w' := by
 have hga := (Keep.refl NoB w).alloc (.cells #[.int .u64 session, .slice A l.length c, .int .u32 sum] 40)
 have HG := LH hga
 have HR := LH (rfits_true A c l _ (h.grow hga) hf)
 clear h hf hga
 go_enter Tryz.func83, Tryz.ntmps83
 go_wp2_with fail
 refine HR.out.mono ?_
 rintro e w1 ⟨rfl, rfl⟩
 go_wp2
 go_ret
 exact ⟨rfl, HG.out⟩
end Go.Proofs.YtfkcpaahdlkcdaaGreat
namespace Go.Proofs.YtfkcpaahdlkcdaaGreat
open Go.RowKit
section
variable {P : Program} {ops : Array Oper} {Q : Exit → Act → World → Prop} {ds : List Nat} {S : Nat → Prop} {R : Act → World → Prop} {acts reads : List Nat} {rest : List Nat} {i : Nat} {o : Oper} {a : Act} {w : World}
theorem ord_callG {N : Option Tmp} {f : FuncId} {fn : Func} {xs : Array Operand} {ts : Array TypeId} (hl : ops.toList[i]? = some o) (ha : acts.contains i = true) (hN : o.dst = N) (hg : Region.wanted o (yielded ops a.tmps) = true)
    (hop : o.op = .call { callee := .value (.func f), args := xs, argTypes := ts }) (hf : P.funcs[f]? = some fn) (hname : (fn.name == "runtime.NumGoroutine") = false) (hb : fn.body.isSome = true) (args : List Value) (hargs : xs.toList.map a.eval = args)
    (h : Calls P f args.toArray w fun e w' => ∃ v, e = .returned v ∧ (i ∉ ds → Keep S w w') ∧ wpOrdC S P ops Q R acts reads ds rest (a.put N v) w') : wpOrdC S P ops Q R acts reads ds (i :: rest) a w := by
 refine ord_act hl ha (fun K hK => ?_)
 rw [if_pos hg]
 subst hN
 unfold Oper.wp
 have h1 : fn.name ≠ "runtime.NumGoroutine" := by simpa using hname
 obtain ⟨c, hc⟩ := Option.isSome_iff_exists.1 hb
 have hcall : (callFunc f args.toArray).run P w = .ok (.enter f args.toArray) w := by simp [callFunc, hf, h1, hc]
 have he : (execOp a.eval o).run P w = .ok (.enter f args.toArray) w := by
  unfold execOp
  have hx : xs.map a.eval = args.toArray := by rw [← hargs]; apply Array.ext'; simp
  rw [hop]
  simp [resolve, Deferred.ofValue, invoke, Act.eval, hx, hcall]
 rw [he, Oper.upon_enter]
 refine h.mono fun e w'' hh => ?_
 obtain ⟨v, rfl, h1, h2⟩ := hh
 exact hK _ _ ⟨h1, h2⟩
end
end Go.Proofs.YtfkcpaahdlkcdaaGreat
namespace Go.Proofs.YtfkcpaahdlkcdaaGreat
open Go.RowKit
theorem fullB_small (n P : Nat) (hn : 1 ≤ n) (hP : P ≤ 4) : fullB n P = ((2 ^ P - 1 : Nat) : Int) :: List.replicate ((n + 7) / 8 - 1) 0 := by
 have e : makeB n = (0 : Int) :: List.replicate ((n + 7) / 8 - 1) 0 := by
  unfold makeB
  rw [show (n + 7) / 8 = ((n + 7) / 8 - 1) + 1 from by omega, List.replicate_succ]
  simp
 have h : P = 0 ∨ P = 1 ∨ P = 2 ∨ P = 3 ∨ P = 4 := by omega
 rcases h with rfl | rfl | rfl | rfl | rfl <;> simp [fullB, e, setB]
theorem eachL_one (c m : Nat) : eachL (((c : Nat) : Int) :: List.replicate m 0) = bitL c := by
 unfold eachL
 rw [List.length_cons, List.length_replicate, List.range_succ_eq_map, List.flatMap_cons, List.flatMap_map]
 have h : (List.range m).flatMap (fun k => (bitL ((((c : Nat) : Int) :: List.replicate m 0).getD (k + 1) 0).toNat).map (fun j => (k + 1) * 8 + j)) = [] := by
  rw [List.flatMap_eq_nil_iff]
  intro k hk
  have e : ((((c : Nat) : Int) :: List.replicate m 0).getD (k + 1) 0).toNat = 0 := by
   simp only [List.getD_eq_getElem?_getD, List.getElem?_cons_succ, List.getElem?_replicate]
   split <;> rfl
  rw [e, bitL_zero]
  rfl
 have h0 : (bitL ((((c : Nat) : Int) :: List.replicate m 0).getD 0 0).toNat).map (fun j => 0 * 8 + j) = bitL c := by simp
 rw [h0]
 have h2 := h
 simp only [Nat.succ_eq_add_one] at *
 rw [h2, List.append_nil]
theorem firstN_full (n P : Nat) (hP : P ≤ 4) (hn : P ≤ n) (h1 : 1 ≤ n) : firstN (fullB n P) n = P := by
 unfold firstN
 rw [fullB_small n P h1 hP, eachL_one]
 have h : P = 0 ∨ P = 1 ∨ P = 2 ∨ P = 3 ∨ P = 4 := by omega
 have hg : goN 0 (bitL (2 ^ P - 1)) = P := by rcases h with rfl | rfl | rfl | rfl | rfl <;> decide
 rw [hg]
 omega
def rowT (p : Nat) (now : Int) (m : Nat) : List KT := (List.range m).map (fun (i : Nat) => (((p + i : Nat) : Int), now))
theorem rowT_succ (p : Nat) (now : Int) (m : Nat) : rowT p now (m + 1) = rowT p now m ++ [(((p + m : Nat) : Int), now)] := by simp [rowT, List.range_succ]
theorem rowT_length (p : Nat) (now : Int) (m : Nat) : (rowT p now m).length = m := by simp [rowT]
theorem mem_rowT {p : Nat} {now : Int} {m : Nat} {x : KT} (h : x ∈ rowT p now m) : ∃ i, i < m ∧ x = (((p + i : Nat) : Int), now) := by
 obtain ⟨i, hi, rfl⟩ := List.mem_map.1 h
 exact ⟨i, List.mem_range.1 hi, rfl⟩
theorem rowT_has (p : Nat) (now : Int) (m k : Nat) (hk : m ≤ k) : hasL (rowT p now m) ((p + k : Nat) : Int) = false := by
 unfold hasL
 rw [List.any_eq_false]
 intro x hx
 obtain ⟨i, hi, rfl⟩ := mem_rowT hx
 simp; omega
theorem delL_none {l : List KT} {key : Int} (h : hasL l key = false) : delL l key = l := by
 unfold delL
 rw [List.filter_eq_self]
 intro x hx
 unfold hasL at h
 rw [List.any_eq_false] at h
 have := h x hx
 simpa using this
theorem rSet_new {l : List KT} {key at_ : Int} (h : hasL l key = false) (hl : l.length < 1000) : rSet l key at_ = l ++ [(key, at_)] := by
 unfold rSet okSet setL
 rw [delL_none h, if_pos (by simp [hl])]
theorem askD_row (now : Int) (p : Nat) (d : Snd) (ht : d.tm = []) : ∀ k, k ≤ 900 → (∀ i, i < k → getB d.acked (p + i) = false) → askD now p k d = { d with tm := rowT p now k }
 | 0, _, _ => by unfold askD; rw [show rowT p now 0 = d.tm from by rw [ht]; rfl]
 | k + 1, hk, h => by
  unfold askD
  rw [askD_row now p d ht k (by omega) (fun i hi => h i (by omega))]
  rw [if_pos ⟨rowT_has p now k k (Nat.le_refl _), h k (by omega)⟩]
  unfold setD
  rw [rSet_new (rowT_has p now k k (Nat.le_refl _)) (by rw [rowT_length]; omega), rowT_succ]
theorem rowT_rest (p : Nat) (now : Int) (m : Nat) : restL (rowT p now m) now = [] := by
 unfold restL
 rw [List.filter_eq_nil_iff]
 intro x hx
 obtain ⟨i, hi, rfl⟩ := mem_rowT hx
 simp
theorem rowT_nd (p : Nat) (now : Int) : ∀ m, ND (rowT p now m)
 | 0 => List.Pairwise.nil
 | m + 1 => by
  rw [rowT_succ]
  unfold ND
  rw [List.pairwise_append]
  refine ⟨rowT_nd p now m, List.pairwise_singleton _ _, fun x hx y hy => ?_⟩
  obtain ⟨i, hi, rfl⟩ := mem_rowT hx
  rw [List.mem_singleton.1 hy]
  show ((p + i : Nat) : Int) ≠ ((p + m : Nat) : Int)
  omega
theorem rowT_sorted (p : Nat) (now : Int) : ∀ m, (rowT p now m).Pairwise lekt
 | 0 => List.Pairwise.nil
 | m + 1 => by
  rw [rowT_succ, List.pairwise_append]
  refine ⟨rowT_sorted p now m, List.pairwise_singleton _ _, fun x hx y hy => ?_⟩
  obtain ⟨i, hi, rfl⟩ := mem_rowT hx
  rw [List.mem_singleton.1 hy]
  exact .inr ⟨rfl, by show ((p + i : Nat) : Int) ≤ ((p + m : Nat) : Int); omega⟩
theorem rowT_due (p : Nat) (now : Int) (m : Nat) : DueOf (rowT p now m) now (rowT p now m) :=
 ⟨rowT_sorted p now m, rowT_nd p now m, fun x => ⟨fun h => ⟨h, by obtain ⟨i, hi, rfl⟩ := mem_rowT h; exact Int.le_refl _⟩, fun h => h.1⟩, by rw [rowT_rest]; rfl⟩
end Go.Proofs.YtfkcpaahdlkcdaaGreat
namespace Go.Proofs.YtfkcpaahdlkcdaaGreat
open Go.RowKit
section
variable {P : Program} {ops : Array Oper} {Q : Exit → Act → World → Prop} {ds : List Nat} {S : Nat → Prop} {R : Act → World → Prop} {acts reads : List Nat} {rest : List Nat} {i : Nat} {o : Oper} {a : Act} {w : World}
end
theorem RowsR.foot {k : IntKind} {a : List (List Int)} {v : Value} {w : World} (h : RowsR k a v w) : Foot (RowsR k a v) w (fun j => j < w.heap.size) := by
 refine ⟨fun j hj => hj, fun W' hW => ?_⟩
 obtain ⟨A, c, rfl, hr⟩ := h
 have hcell : ∀ p u, w.cell? p = some u → W'.cell? p = some u := fun p u hc => (World.cell?_of_block (w := w) (hW p.block (World.block_lt_of_cell? _ _ hc))).trans hc
 refine ⟨A, c, rfl, fun i hi => ?_⟩
 obtain ⟨ad, A', c', e1, e2, e3⟩ := hr i hi
 refine ⟨ad, A', c', e1, hcell _ _ e2, ?_⟩
 obtain ⟨A9, c9, f1, f2, f3, f4, f5⟩ := e3
 exact ⟨A9, c9, f1, f2, f3, f4, fun j u hu => by obtain ⟨ad2, g1, g2⟩ := f5 j u hu; exact ⟨ad2, g1, hcell _ _ g2⟩⟩
end Go.Proofs.YtfkcpaahdlkcdaaGreat
namespace Go.Proofs.YtfkcpaahdlkcdaaGreat
open Go.RowKit
theorem rwithin_calls (A : Option Addr) (c : Nat) (l : List Int) (w : World) (h : SliceR 1 (.slice A l.length c) l.length (ints l) w) (hb : ∀ x ∈ l, 0 ≤ x ∧ x ≤ 100000) (seg at_ n : Int) :
    Calls Tryz.prog 257 #[.slice A l.length c, .int .i64 seg, .int .i64 at_, .int .i64 n] w fun e w' => e = .returned (.bool (withinB l seg at_ n)) ∧ w = w' := by
 have H := LH h
 have HB := LH hb
 clear h hb
 by_cases h0 : 0 ≤ seg
 case neg =>
  have HF : Hid (withinB l seg at_ n = false) := decide_eq_false (fun ⟨g, _⟩ => by omega)
  go_enter Tryz.func257, Tryz.ntmps257
  go_wp2
  go_ret
  exact ⟨by rw [HF.out]; rfl, rfl⟩
 by_cases h1 : seg < l.length
 case neg =>
  have HF : Hid (withinB l seg at_ n = false) := decide_eq_false (fun ⟨_, g, _⟩ => by omega)
  go_enter Tryz.func257, Tryz.ntmps257
  go_wp2
  go_ret
  exact ⟨by rw [HF.out]; rfl, rfl⟩
 by_cases h2 : 0 ≤ at_
 case neg =>
  have HF : Hid (withinB l seg at_ n = false) := decide_eq_false (fun ⟨_, _, g, _⟩ => by omega)
  go_enter Tryz.func257, Tryz.ntmps257
  go_wp2
  go_ret
  exact ⟨by rw [HF.out]; rfl, rfl⟩
 by_cases h3 : 0 ≤ n
 case neg =>
  have HF : Hid (withinB l seg at_ n = false) := decide_eq_false (fun ⟨_, _, _, g, _⟩ => by omega)
  go_enter Tryz.func257, Tryz.ntmps257
  go_wp2
  go_ret
  exact ⟨by rw [HF.out]; rfl, rfl⟩
 obtain ⟨k, rfl⟩ : ∃ k : Nat, seg = k := ⟨seg.toNat, by omega⟩
 have hk : k < l.length := by omega
 obtain ⟨ad, rfl, q0⟩ := SliceR.int_at (k := .i64) H.out k hk
 have hgd : l.getD k 0 = l[k] := by simp [List.getD_eq_getElem?_getD, List.getElem?_eq_getElem hk]
 obtain ⟨b0, b1⟩ := HB.out _ (List.getElem_mem hk)
 by_cases h4 : at_ ≤ l[k]
 case neg =>
  have HF : Hid (withinB l k at_ n = false) := decide_eq_false (fun ⟨_, _, _, _, g⟩ => by rw [Int.toNat_natCast, hgd] at g; omega)
  clear hgd
  go_enter Tryz.func257, Tryz.ntmps257
  go_wp2
  go_ret
  exact ⟨by rw [HF.out]; rfl, rfl⟩
 have hw : IntKind.i64.wrap (l[k] - at_) = l[k] - at_ := IntWalk.i64_in _ (by omega)
 by_cases h5 : n ≤ l[k] - at_
 ·have HF : Hid (withinB l k at_ n = true) := decide_eq_true ⟨by omega, by omega, by omega, by omega, by rw [Int.toNat_natCast, hgd]; omega⟩
  clear hgd
  go_enter Tryz.func257, Tryz.ntmps257
  go_wp2
  go_ret
  exact ⟨by rw [HF.out]; rfl, rfl⟩
 ·have HF : Hid (withinB l k at_ n = false) := decide_eq_false (fun ⟨_, _, _, _, g⟩ => by rw [Int.toNat_natCast, hgd] at g; omega)
  clear hgd
  go_enter Tryz.func257, Tryz.ntmps257
  go_wp2
  go_ret
  exact ⟨by rw [HF.out]; rfl, rfl⟩
theorem szs_bd {a : List (List Int)} (ho : OkA a) : ∀ x ∈ szs a, 0 ≤ x ∧ x ≤ 100000 := fun x hx => by
 obtain ⟨s, hs, rfl⟩ := List.mem_map.1 hx
 have := ho.words s hs
 omega
theorem within_wordA {a : List (List Int)} {seg at_ : Int} (h : withinB (szs a) seg at_ 1 = false) : wordA a seg at_ = (0, 20) := by
 refine wordA_no (fun ⟨h0, h1, h2, h3⟩ => ?_)
 have : withinB (szs a) seg at_ 1 = true := by
  obtain ⟨k, rfl⟩ : ∃ k : Nat, seg = k := ⟨seg.toNat, by omega⟩
  have hk : k < a.length := by omega
  refine decide_eq_true ⟨h0, by rw [szs_length]; exact h1, h2, by omega, ?_⟩
  rw [Int.toNat_natCast] at h3 ⊢
  have e1 : a.getD k [] = a[k] := by simp [List.getD_eq_getElem?_getD, List.getElem?_eq_getElem hk]
  have e2 : (szs a).getD k 0 = a[k].length := by simp [szs, List.getD_eq_getElem?_getD, List.getElem?_eq_getElem hk]
  rw [e1] at h3
  rw [e2]
  omega
 rw [h] at this
 cases this
theorem rword_calls (a : List (List Int)) (ho : OkA a) (A : Option Addr) (c : Nat) (w : World) (h : RowsR .u64 a (.slice A a.length c) w) (seg at_ : Int) :
    Calls Tryz.prog 248 #[.slice A a.length c, .int .i64 seg, .int .i64 at_] w fun e w' => e = .returned (.tuple #[.int .u64 (wordA a seg at_).1, .int .i64 (wordA a seg at_).2]) ∧ Grow w w' := by
 have HS := LH (rsizes_calls a A c w h ho.segs)
 have HBD := LH (szs_bd ho)
 have H := LH h
 clear h ho
 go_enter Tryz.func248, Tryz.ntmps248
 go_wp2_with fail
 refine HS.out.mono ?_
 rintro e w1 ⟨A1, c1, rfl, hg, hown⟩
 have HG := LH hg
 have HO := LH (SliceR.of_own hown)
 replace H := LH (H.out.grow hg)
 clear hg hown HS
 go_wp2_with fail
 refine (rwithin_calls A1 c1 (szs a) w1 HO.out HBD.out seg at_ 1).mono ?_
 rintro e w2 ⟨rfl, rfl⟩
 rcases hb : withinB (szs a) seg at_ 1 with _ | _
 ·have HF := LH (within_wordA hb)
  clear hb
  go_wp2
  go_ret2
  rw [HF.out]
  exact ⟨rfl, HG.out⟩
 ·unfold withinB at hb
  rw [decide_eq_true_eq] at hb
  obtain ⟨h0, h1, h2, _, h3⟩ := hb
  obtain ⟨k, rfl⟩ : ∃ k : Nat, seg = k := ⟨seg.toNat, by omega⟩
  obtain ⟨i, rfl⟩ : ∃ i : Nat, at_ = i := ⟨at_.toNat, by omega⟩
  rw [szs_length] at h1
  have hk : k < a.length := by omega
  have e2 : (szs a).getD k 0 = a[k].length := by simp [szs, List.getD_eq_getElem?_getD, List.getElem?_eq_getElem hk]
  rw [Int.toNat_natCast, e2] at h3
  have hi : i < a[k].length := by omega
  obtain ⟨ad, A', c', rfl, q0, hs⟩ := H.out.at_ k hk
  obtain ⟨ad2, rfl, q1⟩ := SliceR.int_at (k := .u64) hs i hi
  have hgd : a.getD k [] = a[k] := by simp [List.getD_eq_getElem?_getD, List.getElem?_eq_getElem hk]
  have HF : Hid (wordA a k i = (a[k][i], 0)) := by
   show _ = _
   unfold wordA
   rw [if_pos ⟨by omega, by omega, by omega, by rw [Int.toNat_natCast, hgd]; omega⟩, Int.toNat_natCast, hgd, Int.toNat_natCast]
   simp [List.getD_eq_getElem?_getD, List.getElem?_eq_getElem hi]
  have hk' : (k : Int) < a.length := by omega
  have hi' : (i : Int) < a[k].length := by omega
  clear hgd hs h0 h1 h2 h3 e2
  go_wp2
  go_ret2
  rw [HF.out]
  exact ⟨rfl, HG.out⟩
theorem sword_calls (a : List (List Int)) (ho : OkA a) (A : Option Addr) (c : Nat) (w : World) (h : RowsR .u64 a (.slice A a.length c) w) (seg at_ : Int) :
    Calls Tryz.prog 208 #[.agg #[.slice A a.length c, .bool false, .slice none 0 0], .int .i64 seg, .int .i64 at_] w fun e w' => e = .returned (.tuple #[.int .u64 (wordA a seg at_).1, .int .i64 (wordA a seg at_).2]) ∧ Grow w w' := by
 have hga := (Keep.refl NoB w).alloc (.cells #[.slice A a.length c, .bool false, .slice none 0 0] 186)
 have HG := LH hga
 have HC := LH (heap_alloc_new w (.cells #[.slice A a.length c, .bool false, .slice none 0 0] 186))
 have HW := LH (rword_calls a ho A c _ (h.grow hga) seg at_)
 obtain ⟨m0, m1, m2, mf⟩ := cells3 HC.out
 clear h ho hga
 generalize hR : wordA a seg at_ = R at *
 clear hR
 obtain ⟨x, e9⟩ := R
 go_enter Tryz.func208, Tryz.ntmps208
 go_wp2_with fail
 refine HW.out.mono ?_
 rintro e w1 ⟨rfl, hg⟩
 replace HG := LH (HG.out.grow hg)
 replace HC := LH (Grow.heap hg HC.out)
 clear hg m0 m1 m2 mf
 obtain ⟨m0, m1, m2, mf⟩ := cells3 HC.out
 by_cases he : e9 = 0
 ·have heb : (e9 == 0) = true := by simp [he]
  clear he
  go_wp2
  go_ret2
  exact ⟨rfl, HG.out⟩
 ·have heb : (e9 == 0) = false := by simpa using he
  clear he
  go_wp2
  go_ret2
  exact ⟨rfl, HG.out⟩
def QWordsPost (p : Pt) (w : World) (e : Ending) (w' : World) : Prop := e = .returned (.tuple #[.int .i64 (ptrWords p).1, .int .i64 (ptrWords p).2]) ∧ Grow w w'
theorem qwords_calls (p : Pt) (w : World) (hp : PtOk p) : Calls Tryz.prog 228 #[.agg p.cs] w (QWordsPost p w) := by
 have hg := (Keep.refl NoB w).alloc (.cells p.cs 120)
 have hd := heap_alloc_new w (.cells p.cs 120)
 have hdat := hp.d
 have hptr := hp.q
 have hcnt := hp.c
 obtain ⟨kind, off, data, ptrs, size, count, seg, dbl⟩ := p
 simp only [Pt.cs] at hg hd hdat hptr hcnt ⊢
 obtain ⟨c0, c1, c2, c3, c4, c5, c6, c7, cf⟩ := cells8 hd
 have Hg := LH hg
 clear hg hd hp
 by_cases k0 : kind = 0
 ·subst k0
  go_enter Tryz.func228, Tryz.ntmps228
  go_wp2
  go_ret2
  exact ⟨rfl, Hg.out⟩
 have k0b : (kind == 0) = false := beq_eq_false_iff_ne.2 k0
 by_cases k1 : kind = 1
 ·subst k1
  clear k0
  go_enter Tryz.func228, Tryz.ntmps228
  go_wp2
  go_ret2
  exact ⟨rfl, Hg.out⟩
 have k1b : (kind == 1) = false := beq_eq_false_iff_ne.2 k1
 by_cases k3 : kind = 3
 ·subst k3
  clear k0 k1
  cases dbl
  all_goals
   go_enter Tryz.func228, Tryz.ntmps228
   go_wp2
   go_ret2
   exact ⟨rfl, Hg.out⟩
 have k3b : (kind == 3) = false := beq_eq_false_iff_ne.2 k3
 by_cases k2 : kind = 2
 ·subst k2
  clear k0 k1 k3
  by_cases s2 : size = 2
  ·subst s2
   go_enter Tryz.func228, Tryz.ntmps228
   go_wp2
   go_ret2
   refine ⟨?_, Hg.out⟩
   simp [ptrWords]
  have s2b : (size == 2) = false := beq_eq_false_iff_ne.2 s2
  by_cases s5 : size = 5
  ·subst s5
   clear s2
   go_enter Tryz.func228, Tryz.ntmps228
   go_wp2
   go_ret2
   exact ⟨rfl, Hg.out⟩
  have s5b : (size == 5) = false := beq_eq_false_iff_ne.2 s5
  by_cases s6 : size = 6
  ·subst s6
   clear s2 s5
   go_enter Tryz.func228, Tryz.ntmps228
   go_wp2
   go_ret2
   exact ⟨rfl, Hg.out⟩
  have s6b : (size == 6) = false := beq_eq_false_iff_ne.2 s6
  have E : Hid (ptrWords ⟨2, off, data, ptrs, size, count, seg, dbl⟩ = (0, 23)) := by
   refine LH ?_
   simp [ptrWords, s2, s5, s6]
  clear s2 s5 s6
  go_enter Tryz.func228, Tryz.ntmps228
  go_wp2
  go_ret2
  exact ⟨by rw [E.out]; rfl, Hg.out⟩
 have k2b : (kind == 2) = false := beq_eq_false_iff_ne.2 k2
 have E : Hid (ptrWords ⟨kind, off, data, ptrs, size, count, seg, dbl⟩ = (0, 23)) := by
  refine LH ?_
  simp [ptrWords, k0, k1, k2, k3]
 clear k0 k1 k2 k3
 go_enter Tryz.func228, Tryz.ntmps228
 go_wp2
 go_ret2
 exact ⟨by rw [E.out]; rfl, Hg.out⟩
theorem qobwords_calls (o : Ob) (w : World) (ho : ObOk o) : Calls Tryz.prog 174 #[.agg o.cs] w fun e w' => e = .returned (.int .i64 (obWords o)) ∧ Grow w w' := by
 have hg := (Keep.refl NoB w).alloc (.cells o.cs 257)
 have hd := heap_alloc_new w (.cells o.cs 257)
 have Hg := LH hg
 have HO := LH ho
 obtain ⟨c0, c1, c2, c3, c4, c5, c6, cf⟩ := cells7 (show (w.alloc (.cells o.cs 257)).heap[w.heap.size]? = some (.cells #[.int .i64 o.kind, .int .i64 o.seg, .int .i64 o.at_, .int .i64 o.data, .int .i64 o.ptrs, .int .i64 o.size, .int .i64 o.count] 257 (0, 0)) from hd)
 simp only [Ob.cs] at c0 c1 c2 c3 c4 c5 c6 cf Hg ⊢
 clear hg hd ho
 by_cases k3 : o.kind = 3
 ·have E : Hid (obWords o = 0) := LH (by simp [obWords, k3])
  have k3b : (o.kind == 3) = true := beq_iff_eq.2 k3
  clear k3
  go_enter Tryz.func174, Tryz.ntmps174
  go_wp2
  go_ret
  exact ⟨by rw [E.out]; rfl, Hg.out⟩
 ·have E : Hid (obWords o = (ptrWords (obP o)).1) := LH (by simp [obWords, k3])
  have k3b : (o.kind == 3) = false := beq_eq_false_iff_ne.2 k3
  clear k3
  go_enter Tryz.func174, Tryz.ntmps174
  go_wp2_with fail
  refine (show Calls Tryz.prog 228 #[.agg #[.int .i64 o.kind, .int .i64 0, .int .i64 o.data, .int .i64 o.ptrs, .int .i64 o.size, .int .i64 o.count, .int .i64 0, .bool false]] _ (QWordsPost (obP o) _) from qwords_calls (obP o) _ (obP_ok HO.out)).mono ?_
  rintro e w2 ⟨rfl, hg2⟩
  have Hg2 := LH (Hg.out.grow hg2)
  clear hg2
  go_wp2
  go_ret
  exact ⟨by rw [E.out]; rfl, Hg2.out⟩
theorem qnear_calls (p : Pt) (w : World) : Calls Tryz.prog 224 #[.agg p.cs] w fun e w' => e = .returned (.bool (isNear p)) ∧ Grow w w' := by
 have hd := heap_alloc_new w (.cells p.cs 120)
 have Hg := LH ((Keep.refl NoB w).alloc (.cells p.cs 120))
 obtain ⟨c0, c1, c2, c3, c4, c5, c6, c7, cf⟩ := cells8 (show (w.alloc (.cells p.cs 120)).heap[w.heap.size]? = some (.cells #[.int .i64 p.kind, .int .i64 p.off, .int .i64 p.data, .int .i64 p.ptrs, .int .i64 p.size, .int .i64 p.count, .int .i64 p.seg, .bool p.dbl] 120 (0, 0)) from hd)
 simp only [Pt.cs] at c0 c1 c2 c3 c4 c5 c6 c7 cf Hg ⊢
 clear hd
 by_cases k1 : p.kind = 1
 ·have E : Hid (isNear p = true) := LH (by simp [isNear, k1])
  have k1b : (p.kind == 1) = true := beq_iff_eq.2 k1
  clear k1
  go_enter Tryz.func224, Tryz.ntmps224
  go_wp2
  go_ret
  exact ⟨by rw [E.out]; rfl, Hg.out⟩
 ·have E : Hid (isNear p = (p.kind == 2)) := LH (by simp [isNear, k1])
  have k1b : (p.kind == 1) = false := beq_eq_false_iff_ne.2 k1
  clear k1
  go_enter Tryz.func224, Tryz.ntmps224
  go_wp2
  go_ret
  exact ⟨by rw [E.out]; rfl, Hg.out⟩
def QObPost (o : Ob) (w : World) (e : Ending) (w' : World) : Prop := e = .returned (.agg #[.int .i64 o.kind, .int .i64 o.seg, .int .i64 o.at_, .int .i64 o.data, .int .i64 o.ptrs, .int .i64 o.size, .int .i64 o.count]) ∧ Grow w w'
theorem qobj_calls (p : Pt) (seg at_ : Int) (w : World) : Calls Tryz.prog 226 #[.agg #[.int .i64 p.kind, .int .i64 p.off, .int .i64 p.data, .int .i64 p.ptrs, .int .i64 p.size, .int .i64 p.count, .int .i64 p.seg, .bool p.dbl], .int .i64 seg, .int .i64 at_] w (QObPost (obOf p seg at_) w) := by
 have hga := (Keep.refl NoB w).alloc (.cells #[.int .i64 p.kind, .int .i64 p.off, .int .i64 p.data, .int .i64 p.ptrs, .int .i64 p.size, .int .i64 p.count, .int .i64 p.seg, .bool p.dbl] 120)
 have hgb := hga.alloc (.cells #[.int .i64 p.kind, .int .i64 seg, .int .i64 at_, .int .i64 p.data, .int .i64 p.ptrs, .int .i64 p.size, .int .i64 p.count] 257)
 have h1 := heap_two w (.cells #[.int .i64 p.kind, .int .i64 p.off, .int .i64 p.data, .int .i64 p.ptrs, .int .i64 p.size, .int .i64 p.count, .int .i64 p.seg, .bool p.dbl] 120) (.cells #[.int .i64 0, .int .i64 0, .int .i64 0, .int .i64 0, .int .i64 0, .int .i64 0, .int .i64 0] 257)
 obtain ⟨c0, c1, c2, c3, c4, c5, c6, c7, cf⟩ := cells8 h1.1
 have h2 := heap_two w (.cells #[.int .i64 p.kind, .int .i64 p.off, .int .i64 p.data, .int .i64 p.ptrs, .int .i64 p.size, .int .i64 p.count, .int .i64 p.seg, .bool p.dbl] 120) (.cells #[.int .i64 p.kind, .int .i64 seg, .int .i64 at_, .int .i64 p.data, .int .i64 p.ptrs, .int .i64 p.size, .int .i64 p.count] 257)
 have HC := LH h2.2.1
 have HG := LH hgb
 clear hga hgb h1 h2
 go_enter Tryz.func226, Tryz.ntmps226
 go_wp2
 obtain ⟨z0, z1, z2, z3, z4, z5, z6, zf⟩ := cells7 HC.out
 refine bodyPost_ret (v := .agg #[.int .i64 p.kind, .int .i64 seg, .int .i64 at_, .int .i64 p.data, .int .i64 p.ptrs, .int .i64 p.size, .int .i64 p.count]) ?_ rfl ⟨rfl, HG.out⟩
 rw [results_cell1 rfl]; go_simp
def QPAPost (wd : Int → Int → Int × Int) (seg at_ : Int) (w : World) (e : Ending) (w' : World) : Prop := e = .returned (.tuple #[.agg #[.int .i64 (ptrAt wd seg at_).1.kind, .int .i64 (ptrAt wd seg at_).1.off, .int .i64 (ptrAt wd seg at_).1.data, .int .i64 (ptrAt wd seg at_).1.ptrs, .int .i64 (ptrAt wd seg at_).1.size, .int .i64 (ptrAt wd seg at_).1.count, .int .i64 (ptrAt wd seg at_).1.seg, .bool (ptrAt wd seg at_).1.dbl], .int .i64 (ptrAt wd seg at_).2]) ∧ Grow w w'
theorem qptr_calls (a : List (List Int)) (ho : OkA a) (A : Option Addr) (c : Nat) (w : World) (h : RowsR .u64 a (.slice A a.length c) w) (seg at_ : Int) : Calls Tryz.prog 223 #[.agg #[.slice A a.length c, .bool false, .slice none 0 0], .int .i64 seg, .int .i64 at_] w (QPAPost (wordA a) seg at_ w) := by
 have hga := (Keep.refl NoB w).alloc (.cells #[.slice A a.length c, .bool false, .slice none 0 0] 186)
 have hgb := hga.alloc (.cells #[.int .i64 0, .int .i64 0, .int .i64 0, .int .i64 0, .int .i64 0, .int .i64 0, .int .i64 0, .bool false] 120)
 have h2 := heap_two w (.cells #[.slice A a.length c, .bool false, .slice none 0 0] 186) (.cells #[.int .i64 0, .int .i64 0, .int .i64 0, .int .i64 0, .int .i64 0, .int .i64 0, .int .i64 0, .bool false] 120)
 have HZ := LH h2.2.1
 obtain ⟨m0, m1, m2, mf⟩ := cells3 h2.1
 have HG := LH hgb
 have HW := LH (sword_calls a ho A c _ (h.grow hgb) seg at_)
 have HV := LH ((souOk_whole ho).val seg at_)
 have E0 : Hid (ptrAt (wordA a) seg at_ = if (wordA a seg at_).2 = 0 then ptrDec (wordA a seg at_).1 else (pt0, (wordA a seg at_).2)) := LH rfl
 have HP : Hid (∀ e w', (e = .returned (.tuple #[.agg #[.int .i64 (ptrAt (wordA a) seg at_).1.kind, .int .i64 (ptrAt (wordA a) seg at_).1.off, .int .i64 (ptrAt (wordA a) seg at_).1.data, .int .i64 (ptrAt (wordA a) seg at_).1.ptrs, .int .i64 (ptrAt (wordA a) seg at_).1.size, .int .i64 (ptrAt (wordA a) seg at_).1.count, .int .i64 (ptrAt (wordA a) seg at_).1.seg, .bool (ptrAt (wordA a) seg at_).1.dbl], .int .i64 (ptrAt (wordA a) seg at_).2]) ∧ Grow w w') → QPAPost (wordA a) seg at_ w e w') := LH (fun _ _ h => h)
 generalize ptrAt (wordA a) seg at_ = RP at E0 HP
 generalize QPAPost (wordA a) seg at_ w = QP at HP ⊢
 generalize wordA a seg at_ = X at *
 obtain ⟨x, er⟩ := X
 clear h ho hga hgb h2
 go_enter Tryz.func223, Tryz.ntmps223
 go_wp2_with fail
 refine HW.out.mono ?_
 rintro e w1 ⟨rfl, hg⟩
 replace HG := LH (HG.out.grow hg)
 replace HZ := LH (Grow.heap hg HZ.out)
 clear hg m0 m1 m2 mf HW
 by_cases he : er = 0
 ·have heb : (er != 0) = false := by simp [he]
  replace E0 := LH (E0.out.trans (if_pos he))
  clear he
  have hv := HV.out
  go_wp2_with fail
  refine (rdec_calls x _ hv.1 hv.2).mono ?_
  rintro e w2 ⟨rfl, hg⟩
  rw [← E0.out]
  have hgc := (Keep.refl NoB w2).alloc (.cells #[.int .i64 RP.1.kind, .int .i64 RP.1.off, .int .i64 RP.1.data, .int .i64 RP.1.ptrs, .int .i64 RP.1.size, .int .i64 RP.1.count, .int .i64 RP.1.seg, .bool RP.1.dbl] 120)
  replace HG := LH (HG.out.grow (hg.grow hgc))
  have hz2 := Grow.heap hg HZ.out
  have hne : w2.heap.size ≠ w.heap.size + 1 := by have := (gE hz2).1; omega
  have hne2 : w.heap.size + 1 ≠ w2.heap.size := fun e => hne e.symm
  replace HZ := LH (Grow.heap hgc hz2)
  obtain ⟨c0, c1, c2, c3, c4, c5, c6, c7, cf⟩ := cells8 (heap_alloc_new w2 (.cells #[.int .i64 RP.1.kind, .int .i64 RP.1.off, .int .i64 RP.1.data, .int .i64 RP.1.ptrs, .int .i64 RP.1.size, .int .i64 RP.1.count, .int .i64 RP.1.seg, .bool RP.1.dbl] 120))
  clear hg hgc hz2 hv heb
  obtain ⟨hst, hgt⟩ := stored8 (.int .i64 RP.1.kind) (.int .i64 RP.1.off) (.int .i64 RP.1.data) (.int .i64 RP.1.ptrs) (.int .i64 RP.1.size) (.int .i64 RP.1.count) (.int .i64 RP.1.seg) (.bool RP.1.dbl) HG.out (Nat.le_succ _) HZ.out
  obtain ⟨y0, y1, y2, y3, y4, y5, y6, y7, yf⟩ := cells8 HZ.out
  have HSF := LH hst
  have HGF := LH hgt
  clear hst hgt
  go_wp2
  revert HSF HGF
  generalize (((((((((w2.alloc (.cells #[.int .i64 RP.1.kind, .int .i64 RP.1.off, .int .i64 RP.1.data, .int .i64 RP.1.ptrs, .int .i64 RP.1.size, .int .i64 RP.1.count, .int .i64 RP.1.seg, .bool RP.1.dbl] 120)).setCell ⟨w.heap.size + 1, 0, none⟩ (.int .i64 RP.1.kind)).setCell ⟨w.heap.size + 1, 1, none⟩ (.int .i64 RP.1.off)).setCell ⟨w.heap.size + 1, 2, none⟩ (.int .i64 RP.1.data)).setCell ⟨w.heap.size + 1, 3, none⟩ (.int .i64 RP.1.ptrs)).setCell ⟨w.heap.size + 1, 4, none⟩ (.int .i64 RP.1.size)).setCell ⟨w.heap.size + 1, 5, none⟩ (.int .i64 RP.1.count)).setCell ⟨w.heap.size + 1, 6, none⟩ (.int .i64 RP.1.seg)).setCell ⟨w.heap.size + 1, 7, none⟩ (.bool RP.1.dbl)) = w9
  intro HSF HGF
  clear y0 y1 y2 y3 y4 y5 y6 y7 yf
  obtain ⟨y0, y1, y2, y3, y4, y5, y6, y7, yf⟩ := cells8 HSF.out
  refine bodyPost_ret (v := .tuple #[.agg #[.int .i64 RP.1.kind, .int .i64 RP.1.off, .int .i64 RP.1.data, .int .i64 RP.1.ptrs, .int .i64 RP.1.size, .int .i64 RP.1.count, .int .i64 RP.1.seg, .bool RP.1.dbl], .int .i64 RP.2]) ?_ rfl (HP.out _ _ ⟨rfl, HGF.out⟩)
  rw [results_cell_tmp rfl]; go_simp
 ·have heb : (er != 0) = true := by simp [he]
  replace E0 := LH (E0.out.trans (if_neg he))
  clear he
  obtain ⟨hst, hgt⟩ := stored8 (.int .i64 0) (.int .i64 0) (.int .i64 0) (.int .i64 0) (.int .i64 0) (.int .i64 0) (.int .i64 0) (.bool false) HG.out (Nat.le_succ _) HZ.out
  obtain ⟨y0, y1, y2, y3, y4, y5, y6, y7, yf⟩ := cells8 HZ.out
  have HSF := LH hst
  have HGF := LH hgt
  clear hst hgt
  go_wp2
  revert HSF HGF
  generalize ((((((((w1.setCell ⟨w.heap.size + 1, 0, none⟩ (.int .i64 0)).setCell ⟨w.heap.size + 1, 1, none⟩ (.int .i64 0)).setCell ⟨w.heap.size + 1, 2, none⟩ (.int .i64 0)).setCell ⟨w.heap.size + 1, 3, none⟩ (.int .i64 0)).setCell ⟨w.heap.size + 1, 4, none⟩ (.int .i64 0)).setCell ⟨w.heap.size + 1, 5, none⟩ (.int .i64 0)).setCell ⟨w.heap.size + 1, 6, none⟩ (.int .i64 0)).setCell ⟨w.heap.size + 1, 7, none⟩ (.bool false)) = w9
  intro HSF HGF
  clear y0 y1 y2 y3 y4 y5 y6 y7 yf
  obtain ⟨y0, y1, y2, y3, y4, y5, y6, y7, yf⟩ := cells8 HSF.out
  refine bodyPost_ret (v := .tuple #[.agg #[.int .i64 0, .int .i64 0, .int .i64 0, .int .i64 0, .int .i64 0, .int .i64 0, .int .i64 0, .bool false], .int .i64 er]) ?_ rfl (HP.out _ _ ⟨by rw [E0.out]; rfl, HGF.out⟩)
  rw [results_cell_tmp rfl]; go_simp
def foundO (sz : List Int) (o : Ob) : Ob × Int :=
 if (ptrWords (obP o)).2 = 0 then if withinB sz o.seg o.at_ (ptrWords (obP o)).1 then (o, 0) else (ob0, 20) else (ob0, (ptrWords (obP o)).2)
theorem foundP_eq (sz : List Int) (p : Pt) (seg at_ : Int) : foundP sz p seg at_ = foundO sz (obOf p seg at_) := rfl
def QFPost (r : Ob × Int) (w : World) (e : Ending) (w' : World) : Prop := e = .returned (.tuple #[.agg #[.int .i64 r.1.kind, .int .i64 r.1.seg, .int .i64 r.1.at_, .int .i64 r.1.data, .int .i64 r.1.ptrs, .int .i64 r.1.size, .int .i64 r.1.count], .int .i64 r.2]) ∧ Grow w w'
theorem qbounds_calls (a : List (List Int)) (ho : OkA a) (A : Option Addr) (c : Nat) (w : World) (h : RowsR .u64 a (.slice A a.length c) w) (o : Ob) (hk : ObOk o) : Calls Tryz.prog 225 #[.agg #[.slice A a.length c, .bool false, .slice none 0 0], .agg #[.int .i64 o.kind, .int .i64 o.seg, .int .i64 o.at_, .int .i64 o.data, .int .i64 o.ptrs, .int .i64 o.size, .int .i64 o.count]] w (QFPost (foundO (szs a) o) w) := by
 have hga := (Keep.refl NoB w).alloc (.cells #[.slice A a.length c, .bool false, .slice none 0 0] 186)
 have hgb := hga.alloc (.cells #[.int .i64 o.kind, .int .i64 o.seg, .int .i64 o.at_, .int .i64 o.data, .int .i64 o.ptrs, .int .i64 o.size, .int .i64 o.count] 257)
 have hgc := hgb.alloc (.cells #[.int .i64 0, .int .i64 0, .int .i64 0, .int .i64 0, .int .i64 0, .int .i64 0, .int .i64 0] 257)
 have h2 := heap_two w (.cells #[.slice A a.length c, .bool false, .slice none 0 0] 186) (.cells #[.int .i64 o.kind, .int .i64 o.seg, .int .i64 o.at_, .int .i64 o.data, .int .i64 o.ptrs, .int .i64 o.size, .int .i64 o.count] 257)
 have hsz2 : ((w.alloc (.cells #[.slice A a.length c, .bool false, .slice none 0 0] 186)).alloc (.cells #[.int .i64 o.kind, .int .i64 o.seg, .int .i64 o.at_, .int .i64 o.data, .int .i64 o.ptrs, .int .i64 o.size, .int .i64 o.count] 257)).heap.size = w.heap.size + 2 := by simp
 have hz := heap_alloc_new ((w.alloc (.cells #[.slice A a.length c, .bool false, .slice none 0 0] 186)).alloc (.cells #[.int .i64 o.kind, .int .i64 o.seg, .int .i64 o.at_, .int .i64 o.data, .int .i64 o.ptrs, .int .i64 o.size, .int .i64 o.count] 257)) (.cells #[.int .i64 0, .int .i64 0, .int .i64 0, .int .i64 0, .int .i64 0, .int .i64 0, .int .i64 0] 257)
 rw [hsz2] at hz
 have HZ := LH hz
 have hgl := (Keep.refl NoB ((w.alloc (.cells #[.slice A a.length c, .bool false, .slice none 0 0] 186)).alloc (.cells #[.int .i64 o.kind, .int .i64 o.seg, .int .i64 o.at_, .int .i64 o.data, .int .i64 o.ptrs, .int .i64 o.size, .int .i64 o.count] 257))).alloc (.cells #[.int .i64 0, .int .i64 0, .int .i64 0, .int .i64 0, .int .i64 0, .int .i64 0, .int .i64 0] 257)
 have HS := LH (Grow.heap hgl h2.1)
 have HO := LH (Grow.heap hgl h2.2.1)
 have HG := LH hgc
 have H := LH (h.grow hgc)
 have HA := LH ho
 have HK := LH hk
 obtain ⟨m0, m1, m2, mf⟩ := cells3 HS.out
 obtain ⟨d0, d1, d2, d3, d4, d5, d6, df⟩ := cells7 HO.out
 clear h ho hk hga hgb hgc h2 hsz2 hz hgl
 have E0 : Hid (foundO (szs a) o = if (ptrWords (obP o)).2 = 0 then if withinB (szs a) o.seg o.at_ (ptrWords (obP o)).1 then (o, 0) else (ob0, 20) else (ob0, (ptrWords (obP o)).2)) := LH rfl
 have HQW := LH (fun w' => qwords_calls (obP o) w' (obP_ok HK.out))
 go_enter Tryz.func225, Tryz.ntmps225
 go_wp2_with fail
 refine (HQW.out _).mono ?_
 rintro e w1 ⟨rfl, hg⟩
 replace HZ := LH (Grow.heap hg HZ.out)
 replace HS := LH (Grow.heap hg HS.out)
 replace HO := LH (Grow.heap hg HO.out)
 replace HG := LH (HG.out.grow hg)
 replace H := LH (H.out.grow hg)
 clear hg m0 m1 m2 mf d0 d1 d2 d3 d4 d5 d6 df HQW
 generalize ptrWords (obP o) = X at *
 obtain ⟨n, er⟩ := X
 by_cases he : er = 0
 case neg =>
  have heb : (er != 0) = true := by simp [he]
  replace E0 := LH (E0.out.trans (if_neg he))
  clear he
  obtain ⟨hst, hgt⟩ := stored7 (.int .i64 0) (.int .i64 0) (.int .i64 0) (.int .i64 0) (.int .i64 0) (.int .i64 0) (.int .i64 0) HG.out (by omega) HZ.out
  obtain ⟨y0, y1, y2, y3, y4, y5, y6, yf⟩ := cells7 HZ.out
  have HSF := LH hst
  have HGF := LH hgt
  clear hst hgt
  go_wp2
  revert HSF HGF
  generalize (((((((w1.setCell ⟨w.heap.size + 2, 0, none⟩ (.int .i64 0)).setCell ⟨w.heap.size + 2, 1, none⟩ (.int .i64 0)).setCell ⟨w.heap.size + 2, 2, none⟩ (.int .i64 0)).setCell ⟨w.heap.size + 2, 3, none⟩ (.int .i64 0)).setCell ⟨w.heap.size + 2, 4, none⟩ (.int .i64 0)).setCell ⟨w.heap.size + 2, 5, none⟩ (.int .i64 0)).setCell ⟨w.heap.size + 2, 6, none⟩ (.int .i64 0)) = w9
  intro HSF HGF
  clear y0 y1 y2 y3 y4 y5 y6 yf
  obtain ⟨y0, y1, y2, y3, y4, y5, y6, yf⟩ := cells7 HSF.out
  refine bodyPost_ret (v := .tuple #[.agg #[.int .i64 0, .int .i64 0, .int .i64 0, .int .i64 0, .int .i64 0, .int .i64 0, .int .i64 0], .int .i64 er]) ?_ rfl ⟨by rw [E0.out]; rfl, HGF.out⟩
  rw [results_cell_tmp rfl]; go_simp
 have heb : (er != 0) = false := by simp [he]
 replace E0 := LH (E0.out.trans (if_pos he))
 clear he
 obtain ⟨m0, m1, m2, mf⟩ := cells3 HS.out
 obtain ⟨d0, d1, d2, d3, d4, d5, d6, df⟩ := cells7 HO.out
 go_wp2
 refine region_ord [0, 1, 3, 4, 5, 6, 7, 2, 8, 9] [2, 8] [1, 4, 6] [] rfl (by kernel_rfl) ?_
 refine ord_pure rfl rfl rfl rfl rfl (fun _ _ _ _ h => h) ?_ ?_ ?_ ?_ ?_
 rotate_left 2
 ·intro w'; go_simp; with_reducible rfl
 ·simp only [Act.put, pB, pC, pD]; rfl
 refine ord_read rfl rfl rfl rfl rfl (fun _ _ _ _ h => h) ?_ ?_ ?_ ?_ ?_
 rotate_left 2
 ·intro w' hg; have q := hg.cell m0 (fun h => h); go_simp; with_reducible rfl
 ·simp only [Act.put, pB, pC, pD]; rfl
 refine ord_pure rfl rfl rfl rfl rfl (fun _ _ _ _ h => h) ?_ ?_ ?_ ?_ ?_
 rotate_left 2
 ·intro w'; go_simp; with_reducible rfl
 ·simp only [Act.put, pB, pC, pD]; rfl
 refine ord_read rfl rfl rfl rfl rfl (fun _ _ _ _ h => h) ?_ ?_ ?_ ?_ ?_
 rotate_left 2
 ·intro w' hg; have q := hg.cell d1 (fun h => h); go_simp; with_reducible rfl
 ·simp only [Act.put, pB, pC, pD]; rfl
 refine ord_pure rfl rfl rfl rfl rfl (fun _ _ _ _ h => h) ?_ ?_ ?_ ?_ ?_
 rotate_left 2
 ·intro w'; go_simp; with_reducible rfl
 ·simp only [Act.put, pB, pC, pD]; rfl
 refine ord_read rfl rfl rfl rfl rfl (fun _ _ _ _ h => h) ?_ ?_ ?_ ?_ ?_
 rotate_left 2
 ·intro w' hg; have q := hg.cell d2 (fun h => h); go_simp; with_reducible rfl
 ·simp only [Act.put, pB, pC, pD]; rfl
 refine ord_pure rfl rfl rfl rfl rfl (fun _ _ _ _ h => h) ?_ ?_ ?_ ?_ ?_
 rotate_left 2
 ·intro w'; go_simp; with_reducible rfl
 ·simp only [Act.put, pB, pC, pD]; rfl
 refine ord_call rfl rfl rfl rfl rfl Tryz.func70 rfl rfl [.slice A a.length c] rfl ?_
 refine (rsizes_calls a A c _ (H.out.grow (Keep.refl NoB w1).drew) HA.out.segs).mono ?_
 rintro e w2 ⟨A2, c2, rfl, hg, hown⟩
 refine ⟨_, rfl, fun _ => hg, ?_⟩
 have hg2 := (Keep.refl NoB w1).drew.grow hg
 have HSR := LH (SliceR.of_own hown)
 replace HZ := LH (Grow.heap hg2 HZ.out)
 replace HO := LH (Grow.heap hg2 HO.out)
 replace HG := LH (HG.out.grow hg2)
 clear hg hg2 hown m0 m1 m2 mf d0 d1 d2 d3 d4 d5 d6 df
 simp only [Act.put, pB, pC, pD]
 refine ord_call rfl rfl rfl rfl rfl Tryz.func257 rfl rfl [.slice A2 (szs a).length c2, .int .i64 o.seg, .int .i64 o.at_, .int .i64 n] rfl ?_
 refine (rwithin_calls A2 c2 (szs a) w2 HSR.out (szs_bd HA.out) o.seg o.at_ n).mono ?_
 rintro e w3 ⟨rfl, rfl⟩
 rcases hb : withinB (szs a) o.seg o.at_ n with _ | _
 ·rw [hb, if_neg (by simp)] at E0
  clear hb
  refine ⟨_, rfl, fun _ => Keep.refl _ _, ?_⟩
  simp only [Act.put, pB, pC, pD]
  refine ord_pure rfl rfl rfl rfl rfl (fun _ _ _ _ h => h) ?_ ?_ ?_ ?_ ?_
  rotate_left 2
  ·intro w'; go_simp; with_reducible rfl
  ·simp only [Act.put, pB, pC, pD]; rfl
  refine ord_nil ?_
  obtain ⟨hst, hgt⟩ := stored7 (.int .i64 0) (.int .i64 0) (.int .i64 0) (.int .i64 0) (.int .i64 0) (.int .i64 0) (.int .i64 0) HG.out (by omega) HZ.out
  obtain ⟨y0, y1, y2, y3, y4, y5, y6, yf⟩ := cells7 HZ.out
  have HSF := LH hst
  have HGF := LH hgt
  clear hst hgt
  go_wp2
  revert HSF HGF
  generalize (((((((w2.setCell ⟨w.heap.size + 2, 0, none⟩ (.int .i64 0)).setCell ⟨w.heap.size + 2, 1, none⟩ (.int .i64 0)).setCell ⟨w.heap.size + 2, 2, none⟩ (.int .i64 0)).setCell ⟨w.heap.size + 2, 3, none⟩ (.int .i64 0)).setCell ⟨w.heap.size + 2, 4, none⟩ (.int .i64 0)).setCell ⟨w.heap.size + 2, 5, none⟩ (.int .i64 0)).setCell ⟨w.heap.size + 2, 6, none⟩ (.int .i64 0)) = w9
  intro HSF HGF
  clear y0 y1 y2 y3 y4 y5 y6 yf
  obtain ⟨y0, y1, y2, y3, y4, y5, y6, yf⟩ := cells7 HSF.out
  refine bodyPost_ret (v := .tuple #[.agg #[.int .i64 0, .int .i64 0, .int .i64 0, .int .i64 0, .int .i64 0, .int .i64 0, .int .i64 0], .int .i64 20]) ?_ rfl ⟨by rw [E0.out]; rfl, HGF.out⟩
  rw [results_cell_tmp rfl]; go_simp
 ·rw [hb, if_pos rfl] at E0
  clear hb
  refine ⟨_, rfl, fun _ => Keep.refl _ _, ?_⟩
  simp only [Act.put, pB, pC, pD]
  refine ord_pure rfl rfl rfl rfl rfl (fun _ _ _ _ h => h) ?_ ?_ ?_ ?_ ?_
  rotate_left 2
  ·intro w'; go_simp; with_reducible rfl
  ·simp only [Act.put, pB, pC, pD]; rfl
  refine ord_nil ?_
  obtain ⟨d0, d1, d2, d3, d4, d5, d6, df⟩ := cells7 HO.out
  obtain ⟨hst, hgt⟩ := stored7 (.int .i64 o.kind) (.int .i64 o.seg) (.int .i64 o.at_) (.int .i64 o.data) (.int .i64 o.ptrs) (.int .i64 o.size) (.int .i64 o.count) HG.out (by omega) HZ.out
  obtain ⟨y0, y1, y2, y3, y4, y5, y6, yf⟩ := cells7 HZ.out
  have HSF := LH hst
  have HGF := LH hgt
  clear hst hgt
  go_wp2
  revert HSF HGF
  generalize (((((((w2.setCell ⟨w.heap.size + 2, 0, none⟩ (.int .i64 o.kind)).setCell ⟨w.heap.size + 2, 1, none⟩ (.int .i64 o.seg)).setCell ⟨w.heap.size + 2, 2, none⟩ (.int .i64 o.at_)).setCell ⟨w.heap.size + 2, 3, none⟩ (.int .i64 o.data)).setCell ⟨w.heap.size + 2, 4, none⟩ (.int .i64 o.ptrs)).setCell ⟨w.heap.size + 2, 5, none⟩ (.int .i64 o.size)).setCell ⟨w.heap.size + 2, 6, none⟩ (.int .i64 o.count)) = w9
  intro HSF HGF
  clear y0 y1 y2 y3 y4 y5 y6 yf
  obtain ⟨y0, y1, y2, y3, y4, y5, y6, yf⟩ := cells7 HSF.out
  refine bodyPost_ret (v := .tuple #[.agg #[.int .i64 o.kind, .int .i64 o.seg, .int .i64 o.at_, .int .i64 o.data, .int .i64 o.ptrs, .int .i64 o.size, .int .i64 o.count], .int .i64 0]) ?_ rfl ⟨by rw [E0.out], HGF.out⟩
  rw [results_cell_tmp rfl]; go_simp
end Go.Proofs.YtfkcpaahdlkcdaaGreat

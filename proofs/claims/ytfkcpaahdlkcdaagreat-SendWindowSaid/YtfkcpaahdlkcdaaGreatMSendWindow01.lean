import Derived.Test.YtfkcpaahdlkcdaaGreatM29
import Derived.Test.YtfkcpaahdlkcdaaGreatRows
import Derived.KernelRfl
import Derived.JoinedOf
import Derived.OpenShut
import Derived.ShutString
import Derived.ChangeOld
import Derived.SizedLaws
/-! Joined: JoinSendWindow, StA, StB, StC, StD, StE, StF, StG, StH. -/
set_option linter.unusedSimpArgs false
set_option linter.unusedVariables false
namespace Go.Proofs.YtfkcpaahdlkcdaaGreat
theorem pB {α : Type} (l : List α) (i : Nat) (a : α) : l.toArray.setIfInBounds i a = (l.set i a).toArray := List.setIfInBounds_toArray ..
theorem pC {α : Type} (x : α) (l : List α) (a : α) : (x :: l).set 0 a = a :: l := List.set_cons_zero ..
theorem pD {α : Type} (x : α) (l : List α) (i : Nat) (a : α) : (x :: l).set (i + 1) a = x :: l.set i a := List.set_cons_succ ..
end Go.Proofs.YtfkcpaahdlkcdaaGreat
namespace Go.Proofs.YtfkcpaahdlkcdaaGreat.sendWindow
open Go.RowKit
theorem fnamed : Tryz.pinned.checked.prog.funcNamed Rows.sendWindowRow.func = some 5 := by kernel_rfl
theorem instd : Tryz.f5.isInstance Tryz.pinned.checked.prog Rows.sendWindowRow.origin Rows.sendWindowRow.targs := of_decide_eq_true (by kernel_rfl)
theorem wrapd : Tryz.f5.isWrapper Tryz.pinned.checked.prog Rows.sendWindowRow.wrapper Rows.sendWindowRow.mainSum := by unfold Func.isWrapper; first | (rw [if_pos (by decide +kernel)]; kernel_rfl) | (rw [if_neg (by decide +kernel)]; exact ⟨rfl, rfl⟩)
theorem joined : joinedFacts Tryz.pinned.checked.prog 5 Tryz.f5 Rows.sendWindowSpec Rows.sendWindowRow = true := by kernel_rfl
end Go.Proofs.YtfkcpaahdlkcdaaGreat.sendWindow
namespace Go.Proofs.YtfkcpaahdlkcdaaGreat
open Go.RowKit
theorem putB_succ (x : Int) (s : Nat) : u8s (putB x (s + 1)) = u8s (putB x s) ++ [.int .u8 (x / 2 ^ (8 * s) % 256)] := by
  simp [putB, u8s, List.range_succ]
theorem pow8_succ (x : Int) (k : Nat) : x / 2 ^ (8 * (k + 1)) = x / 2 ^ (8 * k) / 256 := by
  rw [show 8 * (k + 1) = 8 * k + 8 from by omega, Int.pow_add, ← Int.ediv_ediv_of_nonneg (by exact_mod_cast Nat.zero_le _)]
  rfl
set_option maxRecDepth 100000 in
set_option maxHeartbeats 4000000 in
theorem rput_calls (x : Int) (s : Nat) (w : World) (hx0 : 0 ≤ x) (hx1 : x ≤ 18446744073709551615) (hs : s ≤ 8) :
    Calls Tryz.prog 71 #[.int .u64 x, .int .i64 s] w fun e w' => ∃ A c, e = .returned (.slice A (putB x s).length c) ∧ Grow w w' ∧ w'.ownsRow w.heap.size 5 1 (.slice A (putB x s).length c) (putB x s).length (u8s (putB x s)) := by
  rw [putB_length]
  have HX := Lib.hid (And.intro hx0 hx1)
  clear hx0 hx1
  go_enter Tryz.func71, Tryz.ntmps71
  go_wp2_with fail
  go_loopw [0, 5, 6] (fun v0 v5 v6 wr => ∃ (k : Nat) (A4 : Option Addr) (c4 : Nat) (y : Int), k ≤ s ∧ v6 = .int .i64 k ∧ v5 = .slice A4 k c4 ∧ v0 = .int .u64 y ∧ y = x / 2 ^ (8 * k) ∧ 0 ≤ y ∧ y ≤ 18446744073709551615 ∧ Hid (Grow w wr ∧ wr.ownsRow w.heap.size 5 1 (.slice A4 k c4) k (u8s (putB x k)))) (fun _ _ v _ => s - (intOf v).toNat)
  case atStart => exact ⟨0, none, 0, x, by omega, rfl, rfl, rfl, by simp, HX.out.1, HX.out.2, Keep.refl _ _, World.ownsRow_nil _ w.heap.size 5 1⟩
  case round =>
    obtain ⟨k, A4, c4, y, hk, rfl, rfl, rfl, hy, y0, y1, HS⟩ := hrel
    have HY := Lib.hid hy
    clear hy
    by_cases hlt : k < s
    · have hw : IntKind.i64.wrap ((k : Int) + 1) = (k : Int) + 1 := IntWalk.i64_in _ (by omega)
      have hlt' : (k : Int) < (s : Int) := by omega
      have hlt8 : (k : Int) < 8 := by omega
      have hy2 : 0 ≤ y % 256 := by omega
      have hy3 : y % 256 ≤ 255 := by omega
      have E1 := Lib.hid (putB_succ x k)
      have hgb := HS.out.1.size
      have HGB := Lib.hid hgb
      clear hgb
      go_wp2_with (at_builtin; refine wpList_app _ rfl _ _ 23 23 rfl w.heap.size 5 (.int .u8 0) 1 1 u_bytes info_u8 rfl (.slice A4 k c4) k (u8s (putB x k)) rfl (.slice (some ⟨wr.heap.size, 0, none⟩) 1 1) 1 [.int .u8 (y % 256)] rfl ?_ (by exact own_keep HS.out.2 ((Keep.refl NoB wr).alloc _) (fun _ _ h => h)) (by exact Src.ofSlice _ u_bytes ⟨wr.heap.size, 0, none⟩ 1 1 _ rfl (World.news_of_block (cs := #[.int .u8 (y % 256)]) (t := 5) (fr := (0, 0)) (heap_alloc_new wr _)) (by simp [Value.oneCell'])) (by simp only [maxLen]; omega) (by omega) (by have := HGB.out; simp; omega); intro v3 w3 hap; refine Hid.out ?_)
      refine Lib.hid ?_
      have Hg3 : Hid (Grow w w3) := Lib.hid (((((HS.out.1.mono (T := fun k => w.heap.size ≤ k) (fun _ h => h.elim)).alloc _).grown hap.grew (fun k hk => .inl (HS.out.2.lt k hk).1))).new (fun _ h => h))
      have Ho3 := Lib.hid hap.own
      obtain ⟨A6, c6, rfl, _⟩ := own_slice hap.own
      clear hap
      rw [HY.out, ← E1.out] at Ho3
      go_wp2
      go_roundw
      case rel =>
        refine ⟨k + 1, A6, c6, y / 256, by omega, by go_num, rfl, rfl, ?_, by omega, by omega, Hg3.out, Ho3.out⟩
        rw [pow8_succ, HY.out]
      case measure => simp [intOf]; omega
    · obtain rfl : k = s := by omega
      have hlt' : ¬ ((k : Int) < (k : Int)) := by omega
      go_wp2
      go_ret
      exact ⟨A4, c4, rfl, HS.out.1, HS.out.2⟩
end Go.Proofs.YtfkcpaahdlkcdaaGreat
namespace Go.Proofs.YtfkcpaahdlkcdaaGreat
open Go.RowKit
theorem poly_mod (a b : Nat) : 2197175160 * ((a ^^^ b) % 2) = (2197175160 * (a % 2)) ^^^ (2197175160 * (b % 2)) := by
  have h : (a ^^^ b) % 2 = (a % 2) ^^^ (b % 2) := Nat.xor_mod_two_pow (n := 1)
  rcases Nat.mod_two_eq_zero_or_one a with ha | ha <;> rcases Nat.mod_two_eq_zero_or_one b with hb | hb
  · rw [h, ha, hb]; rfl
  · rw [h, ha, hb]; rfl
  · rw [h, ha, hb]; rfl
  · rw [h, ha, hb, Nat.xor_self]; decide
theorem stepN_xor (a b : Nat) : stepN (a ^^^ b) = stepN a ^^^ stepN b := by
  unfold stepN
  rw [poly_mod, Nat.xor_div_two]
  ac_rfl
theorem stepsN_xor (a b : Nat) : ∀ k, stepsN k (a ^^^ b) = stepsN k a ^^^ stepsN k b
  | 0 => rfl
  | k + 1 => by
    unfold stepsN
    rw [stepsN_xor a b k, stepN_xor]
theorem stepN_two (m : Nat) : stepN (2 * m) = m := by
  unfold stepN
  rw [show 2 * m / 2 = m from by omega, show 2 * m % 2 = 0 from by omega]
  simp
theorem stepsN_eight (m : Nat) : stepsN 8 (256 * m) = m := by
  rw [show 256 * m = 2 * (2 * (2 * (2 * (2 * (2 * (2 * (2 * m))))))) from by omega]
  simp only [stepsN, stepN_two]
theorem split8 (n : Nat) : (256 * (n / 256)) ^^^ (n % 256) = n := by
  apply Nat.eq_of_testBit_eq
  intro i
  rw [Nat.testBit_xor, show (256 : Nat) = 2 ^ 8 from rfl, Nat.testBit_two_pow_mul, Nat.testBit_mod_two_pow, Nat.testBit_div_two_pow]
  by_cases h : i < 8
  · have h2 : ¬ (8 ≤ i) := by omega
    simp [h, h2]
  · have h2 : 8 ≤ i := by omega
    simp [h, h2]
theorem byte_eq (n c : Nat) : stepsN 8 (n ^^^ c) = (n / 256) ^^^ stepsN 8 ((n % 256) ^^^ c) := by
  conv => lhs; rw [← split8 n]
  rw [Nat.xor_assoc, stepsN_xor, stepsN_eight]
def rcrcN (n : Nat) (bs : List Int) : Nat := bs.foldl (fun n c => stepsN 8 (n ^^^ c.toNat)) n
theorem rcrcN_snoc (n : Nat) (bs : List Int) (c : Int) : rcrcN n (bs ++ [c]) = stepsN 8 (rcrcN n bs ^^^ c.toNat) := by simp [rcrcN]
theorem rcrcN_eq (n : Nat) (bs : List Int) : rcrcN n bs = crcN n bs := by
  induction bs generalizing n with
  | nil => rfl
  | cons c bs ih =>
    show rcrcN (stepsN 8 (n ^^^ c.toNat)) bs = crcN ((n / 256) ^^^ stepsN 8 ((n % 256) ^^^ c.toNat)) bs
    rw [byte_eq]
    exact ih _
set_option maxRecDepth 100000 in
theorem rstep_nat (n : Nat) (w : World) (h : n < 4294967296) : Calls Tryz.prog 209 #[.int .u32 n] w fun e w' => e = .returned (.int .u32 (stepN n : Nat)) ∧ w = w' := by
  have h0 : (0 : Int) ≤ n := by omega
  have h1 : (n : Int) ≤ 4294967295 := by omega
  rcases Nat.mod_two_eq_zero_or_one n with hm | hm
  · have hb : ((n : Int) % 2 == 1) = false := beq_eq_false_iff_ne.2 (by omega)
    have E : Hid ((n : Int) / 2 = ((stepN n : Nat) : Int)) := Lib.hid (by unfold stepN; rw [hm]; simp)
    go_enter Tryz.func209, Tryz.ntmps209
    go_wp2
    go_ret
    rw [← E.out]
    exact ⟨rfl, rfl⟩
  · have hb : ((n : Int) % 2 == 1) = true := beq_iff_eq.2 (by omega)
    have E : Hid (bits .xor .u32 ((n : Int) / 2) 2197175160 = ((stepN n : Nat) : Int)) := Lib.hid (by
      have := u32_xor_nat (n / 2) 2197175160 (by omega) (by decide)
      rw [show ((n / 2 : Nat) : Int) = (n : Int) / 2 from by omega] at this
      unfold stepN; rw [hm]
      exact this)
    go_enter Tryz.func209, Tryz.ntmps209
    go_wp2
    go_ret
    rw [← E.out]
    exact ⟨rfl, rfl⟩
set_option maxRecDepth 100000 in
set_option maxHeartbeats 2000000 in
theorem rcmore_calls (n : Nat) (hn : n < 4294967296) (bs : List Int) (hbig : bs.length ≤ 1000000000) (hb : ∀ c ∈ bs, 0 ≤ c ∧ c ≤ 255) (A : Option Addr) (c : Nat) (w : World) (h : SliceR 1 (.slice A bs.length c) bs.length (u8s bs) w) :
    Calls Tryz.prog 145 #[.int .u32 n, .slice A bs.length c] w fun e w' => e = .returned (.int .u32 (moreN n bs : Nat)) ∧ w = w' := by
  have HB := Lib.hid hb
  have H := Lib.hid h
  clear hb h
  have h0 : (0 : Int) ≤ n := by omega
  have h1 : (n : Int) ≤ 4294967295 := by omega
  have hnx : bits .xor .u32 (n : Int) 4294967295 = ((4294967295 ^^^ n : Nat) : Int) := by
    rw [Nat.xor_comm]; exact u32_xor_nat n 4294967295 hn (by decide)
  have hlm := not_lt' hn
  have E0 : Hid (moreN n bs = rcrcN (4294967295 ^^^ n) bs ^^^ 4294967295) := Lib.hid (by unfold moreN; rw [rcrcN_eq, Nat.xor_comm])
  generalize 4294967295 ^^^ n = n0 at *
  go_enter Tryz.func145, Tryz.ntmps145
  go_wp2
  clear hnx
  go_loopw [0, 5, 6] (fun vn v v6 wr => wr = w ∧ ∃ k : Nat, k ≤ bs.length ∧ v = .int .i64 k ∧ vn = .int .u32 (rcrcN n0 (bs.take k) : Nat)) (fun _ v _ _ => bs.length - (intOf v).toNat)
  case atStart => exact ⟨rfl, 0, by omega, rfl, by simp [rcrcN]⟩
  case round =>
    obtain ⟨rfl, k, hk, rfl, rfl⟩ := hrel
    have hlt2 : rcrcN n0 (bs.take k) < 4294967296 := by rw [rcrcN_eq]; exact crcN_lt (fun x hx => HB.out x (List.mem_of_mem_take hx)) hlm
    by_cases hlt : k < bs.length
    · have hlt' : (k : Int) < bs.length := by omega
      have hbl : bs.length ≤ 1000000000 := hbig
      have hw : IntKind.i64.wrap ((k : Int) + 1) = (k : Int) + 1 := IntWalk.i64_in _ (by omega)
      obtain ⟨ad, rfl, q1⟩ := SliceR.int_at (k := .u8) H.out k hlt
      have hc := HB.out _ (List.getElem_mem hlt)
      have hc0 := hc.1
      have hc1 := hc.2
      have Hsn : Hid (rcrcN n0 (bs.take (k + 1)) = stepsN 8 (rcrcN n0 (bs.take k) ^^^ bs[k].toNat)) := Lib.hid (by rw [List.take_succ_eq_append_getElem hlt, rcrcN_snoc])
      generalize rcrcN n0 (bs.take k) = m at *
      have hx32 : bits .xor .u32 (m : Int) bs[k] = ((m ^^^ bs[k].toNat : Nat) : Int) := by
        have := u32_xor_nat m bs[k].toNat hlt2 (by omega)
        rwa [show ((bs[k].toNat : Nat) : Int) = bs[k] from by omega] at this
      have hlt3 : m ^^^ bs[k].toNat < 4294967296 := Nat.xor_lt_two_pow (n := 32) hlt2 (by omega)
      generalize m ^^^ bs[k].toNat = ix at *
      go_wp2_with fail
      go_loopw [0, 6] (fun vn v wr2 => wr2 = wr ∧ ∃ i : Nat, i ≤ 8 ∧ v = .int .i64 i ∧ vn = .int .u32 (stepsN i ix : Nat)) (fun _ v _ => 8 - (intOf v).toNat)
      case atStart => exact ⟨rfl, 0, by omega, rfl, rfl⟩
      case round =>
        obtain ⟨rfl, i, hi, rfl, rfl⟩ := hrel
        have hs2 := stepsN_lt hlt3 i
        by_cases hilt : i < 8
        · have hilt' : (i : Int) < 8 := by omega
          have hwi : IntKind.i64.wrap ((i : Int) + 1) = (i : Int) + 1 := IntWalk.i64_in _ (by omega)
          go_wp2_with fail
          refine (rstep_nat _ _ hs2).mono ?_
          rintro e w' ⟨rfl, rfl⟩
          go_wp2
          go_roundw
          case rel => exact ⟨trivial, i + 1, by omega, by go_num, rfl⟩
          case measure => simp [intOf]; omega
        · obtain rfl : i = 8 := by omega
          go_wp2
          go_roundw
          case rel => exact ⟨trivial, k + 1, by omega, by go_num, by rw [Hsn.out]⟩
          case measure => simp [intOf]; omega
    · obtain rfl : k = bs.length := by omega
      have hlt' : ¬ ((bs.length : Int) < bs.length) := by omega
      rw [List.take_length] at hlt2 ⊢
      have hnx : bits .xor .u32 ((rcrcN n0 bs : Nat) : Int) 4294967295 = ((rcrcN n0 bs ^^^ 4294967295 : Nat) : Int) := u32_xor_nat _ 4294967295 hlt2 (by decide)
      go_wp2
      go_ret
      exact ⟨by rw [E0.out]; rfl, rfl⟩
set_option maxRecDepth 100000 in
theorem rsum_calls (bs : List Int) (hbig : bs.length ≤ 1000000000) (hb : ∀ c ∈ bs, 0 ≤ c ∧ c ≤ 255) (A : Option Addr) (c : Nat) (w : World) (h : SliceR 1 (.slice A bs.length c) bs.length (u8s bs) w) :
    Calls Tryz.prog 73 #[.slice A bs.length c] w fun e w' => e = .returned (.int .u32 (moreN 0 bs : Nat)) ∧ w = w' := by
  have HM := Lib.hid (rcmore_calls 0 (by decide) bs hbig hb A c w h)
  clear h hb
  go_enter Tryz.func73, Tryz.ntmps73
  go_wp2_with fail
  refine HM.out.mono ?_
  rintro e w1 ⟨rfl, rfl⟩
  go_wp2
  go_ret
  exact ⟨rfl, rfl⟩
end Go.Proofs.YtfkcpaahdlkcdaaGreat
namespace Go.Proofs.YtfkcpaahdlkcdaaGreat
open Go.RowKit
set_option maxRecDepth 100000 in
theorem rsizes_calls (a : List (List Int)) (A : Option Addr) (c : Nat) (w : World) (h : RowsR .u64 a (.slice A a.length c) w) (ha : a.length ≤ 100000) :
    Calls Tryz.prog 70 #[.slice A a.length c] w fun e w' => ∃ A c, e = .returned (.slice A (szs a).length c) ∧ Grow w w' ∧ w'.ownsRow w.heap.size 3 1 (.slice A (szs a).length c) (szs a).length (ints (szs a)) := by
  have H := Lib.hid h
  clear h
  go_enter Tryz.func70, Tryz.ntmps70
  go_wp2
  go_loopw [3, 4] (fun vo v wr => ∃ k : Nat, k ≤ a.length ∧ v = .int .i64 k ∧ ∃ A4 c4, vo = .slice A4 k c4 ∧ Hid (Grow w wr ∧ wr.ownsRow w.heap.size 3 1 (.slice A4 k c4) k (ints ((szs a).take k)))) (fun _ v _ => a.length - (intOf v).toNat)
  case atStart => exact ⟨0, by omega, rfl, none, 0, rfl, Keep.refl _ _, by simpa [ints] using World.ownsRow_nil w w.heap.size 3 1⟩
  case round =>
    obtain ⟨k, hk, rfl, A4, c4, rfl, HS⟩ := hrel
    by_cases hlt : k < a.length
    · obtain ⟨ad, A', c', rfl, h2, _⟩ := (H.out.grow HS.out.1).at_ k hlt
      have hw : IntKind.i64.wrap ((k : Int) + 1) = (k : Int) + 1 := IntWalk.i64_in _ (by omega)
      have hlt' : (k : Int) < a.length := by omega
      have e1 : ints ((szs a).take (k + 1)) = ints ((szs a).take k) ++ [.int .i64 a[k].length] := by
        rw [List.take_succ_eq_append_getElem (by simpa [szs] using hlt)]
        simp [ints, szs]
      have E1 := Lib.hid e1
      clear e1
      go_wp2_with (at_builtin; refine wpList_app _ rfl _ _ 37 37 rfl w.heap.size 3 (.int .i64 0) 1 8 u_ints info_int rfl (.slice A4 k c4) k (ints ((szs a).take k)) rfl (.slice (some ⟨wr.heap.size, 0, none⟩) 1 1) 1 [.int .i64 a[k].length] rfl ?_ (by exact own_keep HS.out.2 ((Keep.refl NoB wr).alloc _) (fun _ _ h => h)) (by exact Src.ofSlice _ u_ints ⟨wr.heap.size, 0, none⟩ 1 1 _ rfl (World.news_of_block (cs := #[.int .i64 a[k].length]) (t := 3) (fr := (0, 0)) (heap_alloc_new wr _)) (by simp [Value.oneCell'])) (by simp only [maxLen]; omega) (by omega) (by have := HS.out.1.size; simp; omega); intro v2 w2 hap; refine Hid.out ?_)
      refine Lib.hid ?_
      have Hg2 : Hid (Grow w w2) := ((((HS.out.1.mono (T := fun k => w.heap.size ≤ k) (fun _ h => h.elim)).alloc _).grown hap.grew (fun k hk => .inl (HS.out.2.lt k hk).1))).new (fun _ h => h)
      have Ho2 := Lib.hid hap.own
      obtain ⟨A6, c6, rfl, _⟩ := own_slice hap.own
      clear hap
      rw [← E1.out] at Ho2
      go_wp2
      go_roundw
      case rel => exact ⟨k + 1, by omega, by go_num, A6, c6, rfl, Hg2.out, Ho2.out⟩
      case measure => simp [intOf]; omega
    · obtain rfl : k = a.length := by omega
      have hlt' : ¬ ((a.length : Int) < a.length) := by omega
      go_wp2
      go_ret
      have ho := HS.out.2
      rw [← szs_length a, List.take_length] at ho
      exact ⟨A4, c4, by rw [szs_length]; rfl, HS.out.1, ho⟩
theorem take_succ_nn {l : List Int} (h0 : ∀ x ∈ l, 0 ≤ x) (k : Nat) (hk : k < l.length) : l[k] ≤ l.sum - (l.take k).sum := by
  have h1 := sum_take_succ hk
  have h2 := sum_take_le h0 (k + 1)
  omega
set_option maxRecDepth 100000 in
theorem rfits_true (A : Option Addr) (c : Nat) (l : List Int) (w : World) (h : SliceR 1 (.slice A l.length c) l.length (ints l) w) (hf : fitsB l = true) :
    Calls Tryz.prog 144 #[.slice A l.length c] w fun e w' => e = .returned (.bool true) ∧ w = w' := by
  have H := Lib.hid h
  obtain ⟨hl1, hl2, hnn, hsum⟩ := fits_parts hf
  have hx0 : 1 ≤ l[0] := by
    unfold fitsB at hf
    simp only [decide_eq_true_eq] at hf
    have := hf.2.2.1
    cases l with
    | nil => simp at hl1
    | cons x r => simpa using this
  have HN := Lib.hid hnn
  clear h hnn hf
  have h1 : ¬ ((l.length : Int) < 1) := by omega
  have h2 : ¬ ((16 : Int) < l.length) := by omega
  obtain ⟨ad, rfl, q0⟩ := SliceR.int_at (k := .i64) H.out 0 (by omega)
  have q0' : w.cell? ad = some (.int .i64 l[0]) := by simpa [Addr.add] using q0
  have hx : ¬ (l[0] < 1) := by omega
  clear q0
  go_enter Tryz.func144, Tryz.ntmps144
  go_wp2
  clear q0' hx hx0
  go_loopw [3, 4] (fun vn v wr => wr = w ∧ ∃ (k : Nat) (s : Int), k ≤ l.length ∧ v = .int .i64 k ∧ vn = .int .i64 s ∧ Hid (s = (l.take k).sum) ∧ 0 ≤ s ∧ s ≤ 4096) (fun _ v _ => l.length - (intOf v).toNat)
  case atStart => exact ⟨rfl, 0, 0, by omega, rfl, rfl, Lib.hid (by simp), by omega, by omega⟩
  case round =>
    obtain ⟨rfl, k, s, hk, rfl, rfl, HS, hs0, hs1⟩ := hrel
    by_cases hlt : k < l.length
    · obtain ⟨ad2, e, q1⟩ := SliceR.int_at (k := .i64) H.out k hlt
      injection e with e
      subst e
      have hw : IntKind.i64.wrap ((k : Int) + 1) = (k : Int) + 1 := IntWalk.i64_in _ (by omega)
      have hlt' : (k : Int) < l.length := by omega
      have hsu := sum_take_succ hlt
      have hle := take_succ_nn HN.out k hlt
      have hn0 : 0 ≤ l[k] := HN.out _ (List.getElem_mem hlt)
      have hs9 := HS.out
      have hw2 : IntKind.i64.wrap (4096 - s) = 4096 - s := IntWalk.i64_in _ (by omega)
      have hw3 : IntKind.i64.wrap (s + l[k]) = s + l[k] := IntWalk.i64_in _ (by omega)
      have hb1 : ¬ (l[k] < 0) := by omega
      have hb2 : ¬ (4096 - s < l[k]) := by omega
      have HR : Hid (s + l[k] = (l.take (k + 1)).sum ∧ 0 ≤ s + l[k] ∧ s + l[k] ≤ 4096) := Lib.hid ⟨by omega, by omega, by omega⟩
      clear hsu hle hs9
      go_wp2
      go_roundw
      case rel => exact ⟨trivial, k + 1, s + l[k], by omega, by go_num, rfl, Lib.hid HR.out.1, HR.out.2.1, HR.out.2.2⟩
      case measure => simp [intOf]; omega
    · obtain rfl : k = l.length := by omega
      have hlt' : ¬ ((l.length : Int) < l.length) := by omega
      go_wp2
      go_ret
      exact ⟨rfl, rfl⟩
set_option maxRecDepth 100000 in
theorem rright_true (a : List (List Int)) (A : Option Addr) (c : Nat) (w : World) (h : RowsR .u64 a (.slice A a.length c) w) (hf : fitsB (szs a) = true) :
    Calls Tryz.prog 69 #[.slice A a.length c] w fun e w' => e = .returned (.bool true) ∧ Grow w w' := by
  have hl := (fits_parts hf).2.1
  rw [szs_length] at hl
  have HS := Lib.hid (rsizes_calls a A c w h (by omega))
  have HF := Lib.hid hf
  clear h hf hl
  go_enter Tryz.func69, Tryz.ntmps69
  go_wp2_with fail
  refine HS.out.mono ?_
  rintro e w1 ⟨A1, c1, rfl, hg, ho⟩
  have HO := Lib.hid (SliceR.of_own ho)
  have HG := Lib.hid hg
  clear hg ho
  go_wp2_with fail
  refine (rfits_true A1 c1 (szs a) w1 HO.out HF.out).mono ?_
  rintro e w2 ⟨rfl, rfl⟩
  go_wp2
  go_ret
  exact ⟨rfl, HG.out⟩
def rB (ws : List Int) : List Int := ws.flatMap (fun x => putB x 8)
theorem rB_snoc (ws : List Int) (x : Int) : rB (ws ++ [x]) = rB ws ++ putB x 8 := by simp [rB]
theorem rB_length (ws : List Int) : (rB ws).length = 8 * ws.length := by
  induction ws with
  | nil => rfl
  | cons x r ih => simp [rB, putB_length] at ih ⊢; omega
theorem u8s_app (a b : List Int) : u8s (a ++ b) = u8s a ++ u8s b := by simp [u8s]
theorem rB_upto (ws : List Int) (hn : ∀ x ∈ ws, 0 ≤ x ∧ x ≤ 18446744073709551615) : ∀ k, k ≤ ws.length → bytesW (upto (fun k => (k, wat ws k)) k) = rB (ws.take k)
  | 0, _ => by simp [upto, bytesW, rB]
  | k + 1, h => by
    have hk : k < ws.length := by omega
    have hv : (wat ws k).1 = ws[k] := by
      have := hn _ (List.getElem_mem hk)
      unfold wat
      have e : ws[k]?.getD 0 = ws[k] := by rw [List.getElem?_eq_getElem hk]; rfl
      rw [e, dif_pos this]
    rw [upto_succ, List.take_succ_eq_append_getElem hk, rB_snoc, ← rB_upto ws hn k (by omega)]
    simp [bytesW, hv]
theorem arenaB_eq (a : List (List Int)) (ho : OkA a) : arenaB a = rB a.flatten := by
  unfold arenaB
  rw [rB_upto a.flatten (fun x hx => by
    obtain ⟨s, hs, h⟩ := List.mem_flatten.1 hx
    exact ho.nums s hs x h) _ (Nat.le_refl _), List.take_length]
end Go.Proofs.YtfkcpaahdlkcdaaGreat
namespace Go.Proofs.YtfkcpaahdlkcdaaGreat
open Go.RowKit
theorem flat_take_len (a : List (List Int)) (i : Nat) (hi : i < a.length) (k : Nat) (hk : k ≤ a[i].length) : ((a.take i).flatten ++ a[i].take k).length ≤ a.flatten.length := by
  have h1 : (a.take (i + 1)).flatten.length ≤ a.flatten.length := by
    conv => rhs; rw [← List.take_append_drop (i + 1) a, List.flatten_append, List.length_append]
    omega
  rw [List.take_succ_eq_append_getElem hi, List.flatten_append, List.length_append] at h1
  have e : ([a[i]] : List (List Int)).flatten.length = a[i].length := by simp
  rw [e] at h1
  rw [List.length_append, List.length_take]
  omega
set_option maxRecDepth 100000 in
set_option maxHeartbeats 4000000 in
theorem rbytes_calls (a : List (List Int)) (ho : OkA a) (hfl : a.flatten.length ≤ 1000000) (A : Option Addr) (c : Nat) (w : World) (h : RowsR .u64 a (.slice A a.length c) w) :
    Calls Tryz.prog 72 #[.slice A a.length c] w fun e w' => ∃ A c, e = .returned (.slice A (rB a.flatten).length c) ∧ Grow w w' ∧ w'.ownsRow w.heap.size 5 1 (.slice A (rB a.flatten).length c) (rB a.flatten).length (u8s (rB a.flatten)) := by
  have H := Lib.hid h
  have HO := Lib.hid ho
  have HFL := Lib.hid hfl
  have hseg := ho.segs
  clear h ho hfl
  go_enter Tryz.func72, Tryz.ntmps72
  go_wp2
  go_loopw [3, 4, 5, 6] (fun vo v v5 v6 wr => ∃ i : Nat, i ≤ a.length ∧ v = .int .i64 i ∧ ∃ A4 c4, vo = .slice A4 (rB (a.take i).flatten).length c4 ∧ Hid (Grow w wr ∧ wr.ownsRow w.heap.size 5 1 (.slice A4 (rB (a.take i).flatten).length c4) (rB (a.take i).flatten).length (u8s (rB (a.take i).flatten)))) (fun _ v _ _ _ => a.length - (intOf v).toNat)
  case atStart => exact ⟨0, by omega, rfl, none, 0, by simp [rB], Keep.refl _ _, by simpa [rB, u8s] using World.ownsRow_nil w w.heap.size 5 1⟩
  case round =>
    obtain ⟨i, hi, rfl, A4, c4, rfl, HS⟩ := hrel
    by_cases hlt : i < a.length
    · have hw : IntKind.i64.wrap ((i : Int) + 1) = (i : Int) + 1 := IntWalk.i64_in _ (by omega)
      have hlt' : (i : Int) < a.length := by omega
      go_wp2_with fail
      obtain ⟨wo, rfl⟩ : ∃ wo : World, wo = wr := ⟨_, rfl⟩
      go_loopw [3, 5, 6] (fun vo v v6 wr => ∃ k : Nat, k ≤ a[i].length ∧ v = .int .i64 k ∧ ∃ A4 c4 n, vo = .slice A4 n c4 ∧ Hid (n = (rB ((a.take i).flatten ++ a[i].take k)).length ∧ Grow w wr ∧ wr.ownsRow w.heap.size 5 1 (.slice A4 n c4) n (u8s (rB ((a.take i).flatten ++ a[i].take k))))) (fun _ v _ _ => a[i].length - (intOf v).toNat)
      case atStart => exact ⟨0, by omega, rfl, A4, c4, _, rfl, by simp, HS.out.1, by simpa using HS.out.2⟩
      case round =>
        obtain ⟨k, hk, rfl, A5, c5, n5, rfl, HS5⟩ := hrel
        obtain ⟨ad, A', c', rfl, h2, h3⟩ := (H.out.grow HS5.out.2.1).at_ i hlt
        have hwl : a[i].length ≤ 100000 := HO.out.words _ (List.getElem_mem hlt)
        have hn5 := HS5.out.1
        rw [rB_length] at hn5
        have hfk := flat_take_len a i hlt k hk
        have hn9 : n5 ≤ 8000000 := by have := HFL.out; omega
        by_cases hkl : k < a[i].length
        · have hwk : IntKind.i64.wrap ((k : Int) + 1) = (k : Int) + 1 := IntWalk.i64_in _ (by omega)
          have hkl' : (k : Int) < a[i].length := by omega
          obtain ⟨ad2, rfl, q2⟩ := SliceR.int_at (k := .u64) h3 k hkl
          have hx := HO.out.nums _ (List.getElem_mem hlt) _ (List.getElem_mem hkl)
          have HX := Lib.hid hx
          have E1 : Hid (u8s (rB ((a.take i).flatten ++ a[i].take (k + 1))) = u8s (rB ((a.take i).flatten ++ a[i].take k)) ++ u8s (putB a[i][k] 8)) := Lib.hid (by
            rw [List.take_succ_eq_append_getElem hkl, ← List.append_assoc, rB_snoc, u8s_app])
          have E2 : Hid (n5 + 8 = (rB ((a.take i).flatten ++ a[i].take (k + 1))).length) := Lib.hid (by
            rw [rB_length, List.take_succ_eq_append_getElem hkl, ← List.append_assoc, List.length_append]
            simp only [List.length_singleton]
            omega)
          clear hx hn5 hfk h3
          go_wp2_with fail
          refine (rput_calls a[i][k] 8 wr HX.out.1 HX.out.2 (Nat.le_refl _)).mono ?_
          rintro e w2 ⟨A6, c6, rfl, hg2, ho2⟩
          rw [putB_length] at ho2
          have HG2 := Lib.hid (HS5.out.2.1.grow hg2)
          have HO5 := Lib.hid (own_keep HS5.out.2.2 hg2 (fun _ _ h => h))
          have HO2 := Lib.hid (SliceR.of_own ho2)
          rw [putB_length]
          clear hg2 ho2
          go_wp2_with (at_builtin; refine wpList_app _ rfl _ _ 23 23 rfl w.heap.size 5 (.int .u8 0) 1 1 u_bytes info_u8 rfl (.slice A5 n5 c5) n5 (u8s (rB ((a.take i).flatten ++ a[i].take k))) rfl (.slice A6 8 c6) 8 (u8s (putB a[i][k] 8)) rfl ?_ (by exact HO5.out) (by exact SliceR.src HO2.out u_bytes (u8s_one _)) (by simp only [maxLen]; omega) (by omega) (by exact HG2.out.size); intro v3 w3 hap; refine Hid.out ?_)
          refine Lib.hid ?_
          have Hg3 : Hid (Grow w w3) := Lib.hid (((HG2.out.mono (T := fun k => w.heap.size ≤ k) (fun _ h => h.elim)).grown hap.grew (fun k hk => .inl (HO5.out.lt k hk).1)).new (fun _ h => h))
          have Ho3 := Lib.hid hap.own
          obtain ⟨A7, c7, rfl, _⟩ := own_slice hap.own
          clear hap
          rw [← E1.out] at Ho3
          go_wp2
          go_roundw
          case rel => exact ⟨k + 1, by omega, by go_num, A7, c7, _, rfl, E2.out, Hg3.out, Ho3.out⟩
          case measure => simp [intOf]; omega
        · obtain rfl : k = a[i].length := by omega
          have hkl' : ¬ ((a[i].length : Int) < a[i].length) := by omega
          have HF : Hid (n5 = (rB (a.take (i + 1)).flatten).length ∧ u8s (rB ((a.take i).flatten ++ a[i].take a[i].length)) = u8s (rB (a.take (i + 1)).flatten)) := Lib.hid (by
            have e : (a.take (i + 1)).flatten = (a.take i).flatten ++ a[i].take a[i].length := by
              rw [List.take_succ_eq_append_getElem hlt, List.flatten_append, List.take_length]; simp
            rw [e]
            exact ⟨HS5.out.1, rfl⟩)
          have HO5 := Lib.hid HS5.out.2.2
          have HG5 := Lib.hid HS5.out.2.1
          rw [HF.out.2, HF.out.1] at HO5
          clear hn5 hfk h3
          go_wp2
          go_roundw
          case rel => exact ⟨i + 1, by omega, by go_num, A5, c5, by rw [HF.out.1], HG5.out, HO5.out⟩
          case measure => simp [intOf]; omega
    · obtain rfl : i = a.length := by omega
      have hlt' : ¬ ((a.length : Int) < a.length) := by omega
      rw [List.take_length] at HS ⊢
      go_wp2
      go_ret
      exact ⟨A4, c4, rfl, HS.out.1, HS.out.2⟩
end Go.Proofs.YtfkcpaahdlkcdaaGreat
namespace Go.Proofs.YtfkcpaahdlkcdaaGreat
open Go.RowKit
structure OfR (w : World) (B6 : Nat) (session : Int) (zs : List Int) (A3 : Option Addr) (c3 : Nat) (F : Nat → Prop) (c : World) : Prop where
  grow : Grow w c
  z : c.heap[w.heap.size]? = some (.cells #[.int .u64 0, .slice none 0 0, .int .u32 0] 40 (0, 0))
  m : c.heap[B6]? = some (.cells #[.int .u64 session, .slice A3 zs.length c3, .int .u32 0] 40 (0, 0))
  s : Foot (SliceR 1 (.slice A3 zs.length c3) zs.length (ints zs)) c F
  hF : ∀ k, F k → k < B6
  lo : w.heap.size < B6
theorem OfR.keep {w : World} {B6 : Nat} {session : Int} {zs : List Int} {A3 : Option Addr} {c3 : Nat} {F : Nat → Prop} {c c' : World} (h : OfR w B6 session zs A3 c3 F c) (hk : Keep (fun j => B6 < j) c c') : OfR w B6 session zs A3 c3 F c' := by
  have hB := (Array.getElem?_eq_some_iff.1 h.m).1
  refine ⟨((h.grow.mono (T := fun j => w.heap.size ≤ j) (fun _ h => h.elim)).trans hk (fun j hj => .inl (by have := h.lo; omega))).new (fun j hj => hj), (hk.block _ (Nat.lt_trans h.lo hB) (by have := h.lo; omega)).trans h.z, (hk.block _ hB (by omega)).trans h.m, h.s.keep hk (fun k hk2 => by have := h.hF k hk2; omega), h.hF, h.lo⟩
theorem OfR.later {w : World} {B6 : Nat} {session : Int} {zs : List Int} {A3 : Option Addr} {c3 : Nat} {F : Nat → Prop} {c c' : World} (h : OfR w B6 session zs A3 c3 F c) (hg : Grow c c') : OfR w B6 session zs A3 c3 F c' := h.keep (hg.mono (fun _ h => h.elim))
def zB (zs : List Int) : List Int := zs.flatMap (fun x => putB x 2)
theorem zB_snoc (zs : List Int) (x : Int) : zB (zs ++ [x]) = zB zs ++ putB x 2 := by simp [zB]
theorem zB_length (zs : List Int) : (zB zs).length = 2 * zs.length := by
  induction zs with
  | nil => rfl
  | cons x r ih => simp [zB, putB_length] at ih ⊢; omega
theorem zB_in (zs : List Int) : ∀ c ∈ zB zs, 0 ≤ c ∧ c ≤ 255 := fun c hc => by
  obtain ⟨x, _, h⟩ := List.mem_flatMap.1 hc
  exact putB_in _ _ c h
theorem rB_in (ws : List Int) : ∀ c ∈ rB ws, 0 ≤ c ∧ c ≤ 255 := fun c hc => by
  obtain ⟨x, _, h⟩ := List.mem_flatMap.1 hc
  exact putB_in _ _ c h
theorem maniB_eq (session : Int) (a : List (List Int)) (ho : OkA a) : maniB session a = putB session 8 ++ zB (szs a) ++ rB a.flatten := by
  unfold maniB
  rw [arenaB_eq a ho]
  rfl
def ROfPost (session : Int) (a : List (List Int)) (w : World) (e : Ending) (w' : World) : Prop :=
  ∃ A c, e = .returned (.tuple #[.agg #[.int .u64 session, .slice A (szs a).length c, .int .u32 (sumP session a : Nat)], .int .i64 0]) ∧ Grow w w' ∧ SliceR 1 (.slice A (szs a).length c) (szs a).length (ints (szs a)) w'
set_option maxRecDepth 100000 in
set_option maxHeartbeats 4000000 in
theorem rmof_calls (session : Int) (h0 : 0 ≤ session) (h1 : session ≤ 18446744073709551615) (a : List (List Int)) (ho : OkA a) (hfit : fitsB (szs a) = true) (hfl : a.flatten.length ≤ 1000000) (A : Option Addr) (c : Nat) (w : World) (hR : RowsR .u64 a (.slice A a.length c) w) :
    Calls Tryz.prog 18 #[.int .u64 session, .slice A a.length c] w (ROfPost session a w) := by
  have hg0 := (Keep.refl NoB w).alloc (.cells #[.int .u64 0, .slice none 0 0, .int .u32 0] 40)
  have HZ := Lib.hid (heap_alloc_new w (.cells #[.int .u64 0, .slice none 0 0, .int .u32 0] 40))
  have HG := Lib.hid hg0
  have HR0 := Lib.hid hR
  have H := Lib.hid (hR.grow hg0)
  have EM := Lib.hid (maniB_eq session a ho)
  have HO := Lib.hid ho
  have HF := Lib.hid hfit
  have HFL := Lib.hid hfl
  have HS01 := Lib.hid (And.intro h0 h1)
  clear hR ho hg0 hfit h0 h1 hfl
  go_enter Tryz.func18, Tryz.ntmps18
  go_wp2_with fail
  refine (rright_true a A c _ H.out HF.out).mono ?_
  rintro e w1 ⟨rfl, hg⟩
  replace HZ := Lib.hid (Grow.heap hg HZ.out)
  replace HG := Lib.hid (HG.out.grow hg)
  replace H := Lib.hid (H.out.grow hg)
  clear hg
  go_wp2_with fail
  refine (rsizes_calls a A c w1 H.out HO.out.segs).mono ?_
  rintro e w2 ⟨A3, c3, rfl, hg, hoz⟩
  have hg6 := (Keep.refl NoB w2).alloc (.cells #[.int .u64 session, .slice A3 (szs a).length c3, .int .u32 0] 40)
  have HM : Hid (OfR w w2.heap.size session (szs a) A3 c3 (fun k => (Value.slice A3 (szs a).length c3).ownBlock = some k) (w2.alloc (.cells #[.int .u64 session, .slice A3 (szs a).length c3, .int .u32 0] 40))) :=
    Lib.hid ⟨(HG.out.grow hg).grow hg6, Grow.heap (hg.grow hg6) HZ.out, heap_alloc_new w2 _, (Foot.of_own hoz).grow hg6, fun k hk => (hoz.lt k hk).2, by
      have h1 := (Array.getElem?_eq_some_iff.1 HZ.out).1
      have := hg.size
      omega⟩
  have HFZ : Hid (∀ k, (Value.slice A3 (szs a).length c3).ownBlock = some k → ¬ k = w.heap.size) := Lib.hid (fun k hk e => by
    have h1 := (Array.getElem?_eq_some_iff.1 HZ.out).1
    have h2 := (hoz.lt k hk).1
    omega)
  replace H := Lib.hid (H.out.grow (hg.grow hg6))
  have hszl := (fits_parts HF.out).2.1
  clear hg hoz hg6 HZ HG
  go_wp2_with fail
  refine (rput_calls session 8 _ HS01.out.1 HS01.out.2 (Nat.le_refl _)).mono ?_
  rintro e w3 ⟨A4, c4, rfl, hg, hob⟩
  rw [show (w2.alloc (.cells #[.int .u64 session, .slice A3 (szs a).length c3, .int .u32 0] 40)).heap.size = w2.heap.size + 1 from by simp] at hob
  replace HM := Lib.hid (HM.out.later hg)
  replace H := Lib.hid (H.out.grow hg)
  have HB := Lib.hid hob
  clear hg hob
  go_wp2_with fail
  go_loopw [7, 8, 9] (fun vo v v9 wr => ∃ i : Nat, i ≤ (szs a).length ∧ v = .int .i64 i ∧ ∃ A5 c5 n, vo = .slice A5 n c5 ∧ Hid (n = (putB session 8 ++ zB ((szs a).take i)).length ∧ Keep (fun j => w2.heap.size < j) w3 wr ∧ wr.ownsRow (w2.heap.size + 1) 5 1 (.slice A5 n c5) n (u8s (putB session 8 ++ zB ((szs a).take i))))) (fun _ v _ _ => (szs a).length - (intOf v).toNat)
  case atStart => exact ⟨0, by omega, rfl, A4, c4, _, rfl, by simp [zB], Keep.refl _ _, by simpa [zB] using HB.out⟩
  case round =>
    obtain ⟨i, hi, rfl, A5, c5, n5, rfl, HS5⟩ := hrel
    have HM5 := Lib.hid (HM.out.keep HS5.out.2.1)
    obtain ⟨m0, m1, m2, mf⟩ := cells3 HM5.out.m
    have hn5 := HS5.out.1
    rw [List.length_append, putB_length, zB_length, List.length_take, Nat.min_eq_left hi] at hn5
    have hn9 : n5 ≤ 1000 := by omega
    by_cases hlt : i < (szs a).length
    · have hw : IntKind.i64.wrap ((i : Int) + 1) = (i : Int) + 1 := IntWalk.i64_in _ (by omega)
      have hlt' : (i : Int) < (szs a).length := by omega
      obtain ⟨ad2, rfl, q2⟩ := SliceR.int_at (k := .i64) HM5.out.s.now i hlt
      obtain ⟨hz1, hz2, hznn, hzs⟩ := fits_parts HF.out
      have hx0 := hznn _ (List.getElem_mem hlt)
      have hx1 := take_succ_nn hznn i hlt
      have hx2 := sum_take_le hznn i
      have hx3 : 0 ≤ ((szs a).take i).sum := by
        have := sum_take_le (l := (szs a).take i) (fun x hx => hznn x (List.mem_of_mem_take hx)) 0
        simpa using this
      have hx4 : (szs a)[i] ≤ 4096 := by omega
      have E1 : Hid (u8s (putB session 8 ++ zB ((szs a).take (i + 1))) = u8s (putB session 8 ++ zB ((szs a).take i)) ++ u8s (putB (szs a)[i] 2)) := Lib.hid (by
        rw [List.take_succ_eq_append_getElem hlt, zB_snoc, ← List.append_assoc, u8s_app])
      have E2 : Hid (n5 + 2 = (putB session 8 ++ zB ((szs a).take (i + 1))).length) := Lib.hid (by
        rw [List.length_append, putB_length, zB_length, List.length_take, Nat.min_eq_left hlt]; omega)
      clear hz1 hz2 hznn hzs hx1 hx2 hx3 hn5
      go_wp2_with fail
      refine (rput_calls (szs a)[i] 2 wr hx0 (by omega) (by omega)).mono ?_
      rintro e w5 ⟨A6, c6, rfl, hg, ho⟩
      rw [putB_length] at ho ⊢
      have HK5 := Lib.hid (HS5.out.2.1.grow hg)
      have HO5 := Lib.hid (own_keep HS5.out.2.2 hg (fun _ _ h => h))
      have HO6 := Lib.hid (SliceR.of_own ho)
      have HSZ : Hid (w2.heap.size + 1 ≤ w5.heap.size) := Lib.hid (by have := (Array.getElem?_eq_some_iff.1 (HM5.out.later hg).m).1; omega)
      clear hg ho
      go_wp2_with (at_builtin; refine wpList_app _ rfl _ _ 23 23 rfl (w2.heap.size + 1) 5 (.int .u8 0) 1 1 u_bytes info_u8 rfl (.slice A5 n5 c5) n5 (u8s (putB session 8 ++ zB ((szs a).take i))) rfl (.slice A6 2 c6) 2 (u8s (putB (szs a)[i] 2)) rfl ?_ (by exact HO5.out) (by exact SliceR.src HO6.out u_bytes (u8s_one _)) (by simp only [maxLen]; omega) (by omega) (by exact HSZ.out); intro v7 w7 hap; refine Hid.out ?_)
      refine Lib.hid ?_
      have HK7 := Lib.hid (HK5.out.grown hap.grew (fun k hk => .inl (by have := (HO5.out.lt k hk).1; omega)))
      have Ho7 := Lib.hid hap.own
      obtain ⟨A7, c7, rfl, _⟩ := own_slice hap.own
      clear hap m0 m1 m2 mf
      rw [← E1.out] at Ho7
      go_wp2
      go_roundw
      case rel => exact ⟨i + 1, by omega, by go_num, A7, c7, _, rfl, E2.out, HK7.out, Ho7.out⟩
      case measure => simp [intOf]; omega
    · obtain rfl : i = (szs a).length := by omega
      have hlt' : ¬ (((szs a).length : Int) < (szs a).length) := by omega
      rw [List.take_length] at HS5
      have HH := Lib.hid (HR0.out.grow HM5.out.grow)
      clear hn5 hszl
      go_wp2_with fail
      clear m0 m1 m2 mf
      refine (rbytes_calls a HO.out HFL.out A c wr HH.out).mono ?_
      rintro e w6 ⟨A8, c8, rfl, hg, ho8⟩
      have HK6 := Lib.hid (HS5.out.2.1.grow hg)
      have HO6 := Lib.hid (own_keep HS5.out.2.2 hg (fun _ _ h => h))
      have HO8 := Lib.hid (SliceR.of_own ho8)
      have HSZ : Hid (w2.heap.size + 1 ≤ w6.heap.size) := Lib.hid (by have := (Array.getElem?_eq_some_iff.1 (HM5.out.later hg).m).1; omega)
      have hrl : (rB a.flatten).length ≤ 8000000 := by rw [rB_length]; have := HFL.out; omega
      clear hg ho8
      go_wp2_with (at_builtin; refine wpList_app _ rfl _ _ 23 23 rfl (w2.heap.size + 1) 5 (.int .u8 0) 1 1 u_bytes info_u8 rfl (.slice A5 n5 c5) n5 (u8s (putB session 8 ++ zB (szs a))) rfl (.slice A8 (rB a.flatten).length c8) (rB a.flatten).length (u8s (rB a.flatten)) rfl ?_ (by exact HO6.out) (by exact SliceR.src HO8.out u_bytes (u8s_one _)) (by simp only [maxLen]; omega) (by omega) (by exact HSZ.out); intro v7 w7 hap; refine Hid.out ?_)
      refine Lib.hid ?_
      have HK7 := Lib.hid (HK6.out.grown hap.grew (fun k hk => .inl (by have := (HO6.out.lt k hk).1; omega)))
      have hown := hap.own
      rw [← u8s_app, ← EM.out, show n5 + (rB a.flatten).length = (maniB session a).length from by rw [EM.out, List.length_append, ← HS5.out.1]] at hown
      obtain ⟨A7, c7, rfl, _⟩ := own_slice hown
      have Ho7 := Lib.hid (SliceR.of_own hown)
      have hml : (maniB session a).length ≤ 1000000000 := by rw [EM.out, List.length_append, ← HS5.out.1]; omega
      have hmi : ∀ c ∈ maniB session a, 0 ≤ c ∧ c ≤ 255 := by
        rw [EM.out]
        intro x hx
        rcases List.mem_append.1 hx with hx | hx
        · rcases List.mem_append.1 hx with hx | hx
          · exact putB_in _ _ x hx
          · exact zB_in _ x hx
        · exact rB_in _ x hx
      have HMI := Lib.hid hmi
      have HM7 := Lib.hid (HM.out.keep HK7.out)
      clear hap hown hmi
      go_wp2_with fail
      refine (rsum_calls (maniB session a) hml HMI.out A7 c7 w7 Ho7.out).mono ?_
      rintro e w8 ⟨rfl, rfl⟩
      have E9 : Hid (moreN 0 (maniB session a) = sumP session a) := Lib.hid rfl
      rw [E9.out]
      obtain ⟨sm, HSM⟩ : ∃ sm, Hid (sumP session a = sm) := ⟨_, Lib.hid rfl⟩
      rw [HSM.out]
      obtain ⟨m0, m1, m2, mf⟩ := cells3 HM7.out.m
      have hlo := HM7.out.lo
      have hW1m : (w7.setCell ⟨w2.heap.size, 2, none⟩ (.int .u32 (sm : Nat))).heap[w2.heap.size]? = some (.cells #[.int .u64 session, .slice A3 (szs a).length c3, .int .u32 (sm : Nat)] 40 (0, 0)) := by
        have h0 := HM7.out.m
        simp only [World.setCell, Array.getElem?_modify]
        simp [h0]
      have hk1 : Keep (fun j => j = w2.heap.size) w7 (w7.setCell ⟨w2.heap.size, 2, none⟩ (.int .u32 (sm : Nat))) := (Keep.refl (fun j => j = w2.heap.size) w7).setCell (p := ⟨w2.heap.size, 2, none⟩) (.inl rfl) _
      have hW1z := (hk1.block w.heap.size (Array.getElem?_eq_some_iff.1 HM7.out.z).1 (by omega)).trans HM7.out.z
      have hW1g : Grow w (w7.setCell ⟨w2.heap.size, 2, none⟩ (.int .u32 (sm : Nat))) := HM7.out.grow.setCell (p := ⟨w2.heap.size, 2, none⟩) (.inr (by show w.heap.size ≤ w2.heap.size; omega)) _
      have hW1s := HM7.out.s.keep hk1 (fun k hk e => by have := HM7.out.hF k hk; omega)
      obtain ⟨x0, x1, x2, xf⟩ := cells3 hW1m
      obtain ⟨y0, y1, y2, yf⟩ := cells3 hW1z
      obtain ⟨hs3, hg3⟩ := stored3 (.int .u64 session) (.slice A3 (szs a).length c3) (.int .u32 (sm : Nat)) hW1g (Nat.le_refl _) hW1z
      have hk3 : Keep (fun j => j = w.heap.size) (w7.setCell ⟨w2.heap.size, 2, none⟩ (.int .u32 (sm : Nat))) ((((w7.setCell ⟨w2.heap.size, 2, none⟩ (.int .u32 (sm : Nat))).setCell ⟨w.heap.size, 0, none⟩ (.int .u64 session)).setCell ⟨w.heap.size, 1, none⟩ (.slice A3 (szs a).length c3)).setCell ⟨w.heap.size, 2, none⟩ (.int .u32 (sm : Nat))) :=
        ((((Keep.refl (fun j => j = w.heap.size) _).setCell (p := ⟨w.heap.size, 0, none⟩) (.inl rfl) _).setCell (p := ⟨w.heap.size, 1, none⟩) (.inl rfl) _).setCell (p := ⟨w.heap.size, 2, none⟩) (.inl rfl) _)
      have HFIN : Hid (ROfPost session a w (.returned (.tuple #[.agg #[.int .u64 session, .slice A3 (szs a).length c3, .int .u32 (sm : Nat)], .int .i64 0])) ((((w7.setCell ⟨w2.heap.size, 2, none⟩ (.int .u32 (sm : Nat))).setCell ⟨w.heap.size, 0, none⟩ (.int .u64 session)).setCell ⟨w.heap.size, 1, none⟩ (.slice A3 (szs a).length c3)).setCell ⟨w.heap.size, 2, none⟩ (.int .u32 (sm : Nat)))) :=
        Lib.hid ⟨A3, c3, by rw [HSM.out], hg3, (hW1s.keep hk3 (fun k hk e => HFZ.out k hk e)).now⟩
      have HS3 := Lib.hid hs3
      clear hW1m hk1 hW1z hW1g hW1s hs3 hg3 hk3 hlo
      go_wp2
      revert HS3 HFIN
      generalize ((((w7.setCell ⟨w2.heap.size, 2, none⟩ (.int .u32 (sm : Nat))).setCell ⟨w.heap.size, 0, none⟩ (.int .u64 session)).setCell ⟨w.heap.size, 1, none⟩ (.slice A3 (szs a).length c3)).setCell ⟨w.heap.size, 2, none⟩ (.int .u32 (sm : Nat))) = w9
      intro HFIN HS3
      obtain ⟨y0, y1, y2, yf⟩ := cells3 HS3.out
      refine bodyPost_ret (v := .tuple #[.agg #[.int .u64 session, .slice A3 (szs a).length c3, .int .u32 (sm : Nat)], .int .i64 0]) ?_ rfl HFIN.out
      rw [results_cell_tmp rfl]; go_simp
end Go.Proofs.YtfkcpaahdlkcdaaGreat
namespace Go.Proofs.YtfkcpaahdlkcdaaGreat
open Go.RowKit
set_option maxRecDepth 100000 in
theorem rmright_true (session sum : Int) (l : List Int) (A : Option Addr) (c : Nat) (w : World) (h : SliceR 1 (.slice A l.length c) l.length (ints l) w) (hf : fitsB l = true) :
    Calls Tryz.prog 83 #[.agg #[.int .u64 session, .slice A l.length c, .int .u32 sum]] w fun e w' => e = .returned (.bool true) ∧ Grow w w' := by
  have hga := (Keep.refl NoB w).alloc (.cells #[.int .u64 session, .slice A l.length c, .int .u32 sum] 40)
  have HG := Lib.hid hga
  have HR := Lib.hid (rfits_true A c l _ (h.grow hga) hf)
  clear h hf hga
  go_enter Tryz.func83, Tryz.ntmps83
  go_wp2_with fail
  refine HR.out.mono ?_
  rintro e w1 ⟨rfl, rfl⟩
  go_wp2
  go_ret
  exact ⟨rfl, HG.out⟩
set_option maxRecDepth 100000 in
theorem rmwords_calls (session sum : Int) (l : List Int) (A : Option Addr) (c : Nat) (w : World) (h : SliceR 1 (.slice A l.length c) l.length (ints l) w) (hf : fitsB l = true) :
    Calls Tryz.prog 46 #[.agg #[.int .u64 session, .slice A l.length c, .int .u32 sum]] w fun e w' => e = .returned (.int .i64 l.sum) ∧ Grow w w' := by
  have hga := (Keep.refl NoB w).alloc (.cells #[.int .u64 session, .slice A l.length c, .int .u32 sum] 40)
  have HG := Lib.hid hga
  have HH := Lib.hid (h.grow hga)
  have HC := Lib.hid (heap_alloc_new w (.cells #[.int .u64 session, .slice A l.length c, .int .u32 sum] 40))
  have HF := Lib.hid hf
  obtain ⟨m0, m1, m2, mf⟩ := cells3 HC.out
  clear h hf hga
  go_enter Tryz.func46, Tryz.ntmps46
  go_wp2_with fail
  refine (rmright_true session sum l A c _ HH.out HF.out).mono ?_
  rintro e w1 ⟨rfl, hg⟩
  replace HG := Lib.hid (HG.out.grow hg)
  replace HH := Lib.hid (HH.out.grow hg)
  replace HC := Lib.hid (Grow.heap hg HC.out)
  clear hg m0 m1 m2 mf
  go_wp2_with fail
  go_loopw [3, 4] (fun vn v wr => wr = w1 ∧ ∃ (k : Nat) (s : Int), k ≤ l.length ∧ v = .int .i64 k ∧ vn = .int .i64 s ∧ Hid (s = (l.take k).sum) ∧ 0 ≤ s ∧ s ≤ 4096) (fun _ v _ => l.length - (intOf v).toNat)
  case atStart => exact ⟨rfl, 0, 0, by omega, rfl, rfl, Lib.hid (by simp), by omega, by omega⟩
  case round =>
    obtain ⟨rfl, k, s, hk, rfl, rfl, HS, hs0, hs1⟩ := hrel
    obtain ⟨m0, m1, m2, mf⟩ := cells3 HC.out
    obtain ⟨hl1, hl2, hnn, hsum⟩ := fits_parts HF.out
    by_cases hlt : k < l.length
    · obtain ⟨ad2, rfl, q1⟩ := SliceR.int_at (k := .i64) HH.out k hlt
      have hw : IntKind.i64.wrap ((k : Int) + 1) = (k : Int) + 1 := IntWalk.i64_in _ (by omega)
      have hlt' : (k : Int) < l.length := by omega
      have hsu := sum_take_succ hlt
      have hle := take_succ_nn hnn k hlt
      have hn0 : 0 ≤ l[k] := hnn _ (List.getElem_mem hlt)
      have hs9 := HS.out
      have hw3 : IntKind.i64.wrap (s + l[k]) = s + l[k] := IntWalk.i64_in _ (by omega)
      have HR : Hid (s + l[k] = (l.take (k + 1)).sum ∧ 0 ≤ s + l[k] ∧ s + l[k] ≤ 4096) := Lib.hid ⟨by omega, by omega, by omega⟩
      clear hsu hle hs9 hnn
      go_wp2
      go_roundw
      case rel => exact ⟨trivial, k + 1, s + l[k], by omega, by go_num, rfl, Lib.hid HR.out.1, HR.out.2.1, HR.out.2.2⟩
      case measure => simp [intOf]; omega
    · obtain rfl : k = l.length := by omega
      have hlt' : ¬ ((l.length : Int) < l.length) := by omega
      have HE : Hid (s = l.sum) := Lib.hid (by rw [HS.out, List.take_length])
      clear hnn
      go_wp2
      go_ret
      exact ⟨by rw [HE.out]; rfl, HG.out⟩
set_option maxRecDepth 100000 in
theorem rmchunks_calls (session sum : Int) (l : List Int) (A : Option Addr) (c : Nat) (w : World) (h : SliceR 1 (.slice A l.length c) l.length (ints l) w) (hf : fitsB l = true) :
    Calls Tryz.prog 30 #[.agg #[.int .u64 session, .slice A l.length c, .int .u32 sum]] w fun e w' => e = .returned (.int .i64 (chunksN l : Nat)) ∧ Grow w w' := by
  have hga := (Keep.refl NoB w).alloc (.cells #[.int .u64 session, .slice A l.length c, .int .u32 sum] 40)
  have HG := Lib.hid hga
  have HR := Lib.hid (rmwords_calls session sum l A c _ (h.grow hga) hf)
  obtain ⟨hl1, hl2, hnn, hsum⟩ := fits_parts hf
  have hs0 : 0 ≤ l.sum := by
    have := sum_take_le hnn 0
    simpa using this
  have hw : IntKind.i64.wrap (l.sum + 7) = l.sum + 7 := IntWalk.i64_in _ (by omega)
  have HE : Hid ((l.sum + 7) / 8 = (chunksN l : Nat)) := Lib.hid (by unfold chunksN; omega)
  have hp : 0 ≤ l.sum + 7 := by omega
  clear h hf hga hnn
  generalize l.sum = S at *
  go_enter Tryz.func30, Tryz.ntmps30
  go_wp2_with fail
  refine HR.out.mono ?_
  rintro e w1 ⟨rfl, hg⟩
  replace HG := Lib.hid (HG.out.grow hg)
  clear hg
  go_wp2
  go_ret
  exact ⟨by rw [HE.out]; rfl, HG.out⟩
end Go.Proofs.YtfkcpaahdlkcdaaGreat
namespace Go.Proofs.YtfkcpaahdlkcdaaGreat
open Go.RowKit
theorem piece_read {r cap : Nat} {bs : List Int} {w : World} (hc : ∀ (j : Nat) u, (u8s bs)[j]? = some u → w.cell? ⟨r, 0 + j, none⟩ = some u) (hl : bs.length ≤ cap) (o m : Nat) (hm : o + m ≤ bs.length) :
    SliceR 1 (.slice (some ⟨r, o, none⟩) m (cap - o)) m (u8s ((bs.drop o).take m)) w := by
  refine ⟨_, _, rfl, by omega, by simp; omega, (fun e => by cases e), fun j u hu => ⟨_, rfl, ?_⟩⟩
  have hj : j < m := by
    rcases Nat.lt_or_ge j m with h | h
    · exact h
    · rw [List.getElem?_eq_none (by simp; omega)] at hu; cases hu
  have hu2 : (u8s bs)[o + j]? = some u := by
    rw [← hu]
    simp [hj]
  have := hc (o + j) u hu2
  simp only [Addr.add] at *
  by_cases hz : j = 0
  · subst hz; simpa using this
  · simpa [hz] using this
set_option maxRecDepth 100000 in
set_option maxHeartbeats 4000000 in
theorem rchunk_calls (a : List (List Int)) (ho : OkA a) (hfit : fitsB (szs a) = true) (hfl : a.flatten.length ≤ 1000000) (i : Nat) (hi : 64 * i < (rB a.flatten).length) (A : Option Addr) (c : Nat) (w : World) (hR : RowsR .u64 a (.slice A a.length c) w) :
    Calls Tryz.prog 31 #[.slice A a.length c, .int .i64 i] w fun e w' => ∃ A c, e = .returned (.slice A (chunkP a i).length c) ∧ Grow w w' ∧ SliceR 1 (.slice A (chunkP a i).length c) (chunkP a i).length (u8s (chunkP a i)) w' := by
  have HB := Lib.hid (rbytes_calls a ho hfl A c w hR)
  have H := Lib.hid hR
  have HF := Lib.hid hfit
  have EC : Hid (chunkP a i = ((rB a.flatten).drop (64 * i)).take 64) := Lib.hid (by unfold chunkP pieceL; rw [arenaB_eq a ho, Nat.mul_comm])
  have hbl : (rB a.flatten).length ≤ 8000000 := by rw [rB_length]; omega
  clear hR hfit hfl ho
  go_enter Tryz.func31, Tryz.ntmps31
  go_wp2_with fail
  refine HB.out.mono ?_
  rintro e w1 ⟨A1, c1, rfl, hg, hown⟩
  obtain ⟨r, cap, e1, _, hcap, hcells⟩ := own_cells hown (by omega)
  injection e1 with e1 _ e3
  subst e1
  subst e3
  have HG := Lib.hid hg
  replace H := Lib.hid (H.out.grow hg)
  have HC := Lib.hid hcells
  clear hg hown hcells HB
  go_wp2_with fail
  refine (rright_true a A c w1 H.out HF.out).mono ?_
  rintro e w2 ⟨rfl, hg⟩
  replace HG := Lib.hid (HG.out.grow hg)
  have HC2 : Hid (∀ (j : Nat) u, (u8s (rB a.flatten))[j]? = some u → w2.cell? ⟨r, 0 + j, none⟩ = some u) := Lib.hid (fun j u hu => hg.cell (HC.out j u hu) (fun h => h))
  clear hg
  generalize rB a.flatten = bs at *
  have hi0 : ¬ ((i : Int) < 0) := by omega
  have hi1 : 0 ≤ (i : Int) := by omega
  have hw1 : IntKind.i64.wrap ((bs.length : Int) + 63) = (bs.length : Int) + 63 := IntWalk.i64_in _ (by omega)
  have hw2 : IntKind.i64.wrap (64 * (i : Int)) = 64 * (i : Int) := IntWalk.i64_in _ (by omega)
  have hw3 : IntKind.i64.wrap (64 * (i : Int) + 64) = 64 * (i : Int) + 64 := IntWalk.i64_in _ (by omega)
  have hp : 0 ≤ (bs.length : Int) + 63 := by omega
  have hge : ¬ (((bs.length : Int) + 63) / 64 ≤ (i : Int)) := by omega
  have h641 : 64 * (i : Int) ≤ c1 := by omega
  have HFIN : ∀ m, m = min 64 (bs.length - 64 * i) → Hid (SliceR 1 (.slice (some ⟨r, 64 * i, none⟩) (chunkP a i).length (c1 - 64 * i)) (chunkP a i).length (u8s (chunkP a i)) w2 ∧ (chunkP a i).length = m) := fun m hm => by
    have e1 : (chunkP a i).length = m := by rw [EC.out]; simp; omega
    have e2 : chunkP a i = (bs.drop (64 * i)).take m := by
      rw [EC.out]
      rcases Nat.le_total 64 (bs.length - 64 * i) with h | h
      · rw [show m = 64 from by omega]
      · rw [List.take_of_length_le (by simp; omega), List.take_of_length_le (by simp; omega)]
    refine Lib.hid ⟨?_, e1⟩
    have hp := piece_read HC2.out hcap (64 * i) m (by omega)
    rw [e1]
    rw [← e2] at hp
    exact hp
  by_cases hm : 64 * i + 64 < bs.length
  · have hm1 : 64 * (i : Int) + 64 < (bs.length : Int) := by omega
    have hm2 : 64 * (i : Int) + 64 ≤ (bs.length : Int) := by omega
    have hm3 : ¬ ((bs.length : Int) ≤ 64 * (i : Int) + 64) := by omega
    have HF1 := HFIN (64 * i + 64 - 64 * i) (by omega)
    clear HFIN
    go_wp2
    go_ret
    refine ⟨some ⟨r, 64 * i, none⟩, c1 - 64 * i, ?_, HG.out, HF1.out.1⟩
    rw [HF1.out.2]; rfl
  · by_cases hme : 64 * i + 64 = bs.length
    · have hm1 : 64 * (i : Int) + 64 = (bs.length : Int) := by omega
      have HF1 := HFIN (bs.length - 64 * i) (by omega)
      clear HFIN hm
      rw [hm1] at hw3
      go_wp2
      go_ret
      refine ⟨some ⟨r, 64 * i, none⟩, c1 - 64 * i, ?_, HG.out, HF1.out.1⟩
      rw [HF1.out.2]; rfl
    · have hm1 : ¬ (64 * (i : Int) + 64 < (bs.length : Int)) := by omega
      have hm2 : ¬ (64 * (i : Int) + 64 ≤ (bs.length : Int)) := by omega
      have hm3 : (bs.length : Int) ≤ 64 * (i : Int) + 64 := by omega
      have hm4 : (bs.length : Int) < 64 * (i : Int) + 64 := by omega
      have HF1 := HFIN (bs.length - 64 * i) (by omega)
      clear HFIN hm hme
      go_wp2
      go_ret
      refine ⟨some ⟨r, 64 * i, none⟩, c1 - 64 * i, ?_, HG.out, HF1.out.1⟩
      rw [HF1.out.2]; rfl
end Go.Proofs.YtfkcpaahdlkcdaaGreat
namespace Go.Proofs.YtfkcpaahdlkcdaaGreat
open Go.RowKit
def rightBits (bs : List Int) (n : Nat) : Bool := decide (bs.length = (n + 7) / 8) && (decide (n % 8 = 0) || decide (bs.getD (bs.length - 1) 0 / 2 ^ (n % 8) = 0))
theorem rightBits_make (n : Nat) : rightBits (makeB n) n = true := by
  unfold rightBits makeB
  rw [List.length_replicate]
  simp
  right
  rw [List.getElem?_replicate]
  split <;> simp
set_option maxRecDepth 100000 in
theorem bright_calls (A : Option Addr) (c : Nat) (bs : List Int) (hb : OkB bs) (hlen : bs.length ≤ 100000) (n : Nat) (hn : n ≤ 65536) (w : World) (h : SliceR 1 (.slice A bs.length c) bs.length (u8s bs) w) :
    Calls Tryz.prog 253 #[.slice A bs.length c, .int .i64 n] w fun e w' => e = .returned (.bool (rightBits bs n)) ∧ Grow w w' := by
  have H := Lib.hid h
  have HB := Lib.hid hb
  have hn0 : ¬ ((n : Int) < 0) := by omega
  have hn1 : ¬ ((65536 : Int) < (n : Int)) := by omega
  clear h hb
  by_cases hl : bs.length = (n + 7) / 8
  · by_cases h8 : n % 8 = 0
    · have HR : Hid (rightBits bs n = true) := Lib.hid (by unfold rightBits; simp [hl, h8])
      have hlb : (((bs.length : Nat) : Int) != (((n + 7) / 8 : Nat) : Int)) = false := by simp [hl]
      have h8i : (n : Int) % 8 = 0 := by omega
      clear hl h8
      go_enter Tryz.func253, Tryz.ntmps253
      go_wp2_with fail
      refine (bmake_calls n hn _).mono ?_
      rintro e w1 ⟨A1, c1, rfl, hg, ho⟩
      rw [show (makeB n).length = (n + 7) / 8 from by simp [makeB]]
      have HG := Lib.hid hg
      clear hg ho
      go_wp2
      go_ret
      exact ⟨by rw [HR.out]; rfl, HG.out⟩
    · have hlb : (((bs.length : Nat) : Int) != (((n + 7) / 8 : Nat) : Int)) = false := by simp [hl]
      have h8i : ((n : Int) % 8 == 0) = false := beq_eq_false_iff_ne.2 (by omega)
      have hk : bs.length - 1 < bs.length := by omega
      obtain ⟨ad, rfl, q1⟩ := SliceR.int_at (k := .u8) H.out (bs.length - 1) hk
      have HR : Hid (decide (bs[bs.length - 1] / 2 ^ (n % 8) = 0) = rightBits bs n) := Lib.hid (by
        unfold rightBits
        have e : bs.getD (bs.length - 1) 0 = bs[bs.length - 1] := by rw [List.getD_eq_getElem?_getD, List.getElem?_eq_getElem hk]; rfl
        rw [e]
        simp [hl, h8])
      have hw : IntKind.i64.wrap ((bs.length : Int) - 1) = ((bs.length - 1 : Nat) : Int) := by
        rw [show (bs.length : Int) - 1 = ((bs.length - 1 : Nat) : Int) from by omega]
        exact IntWalk.i64_in _ (by omega)
      have hb9 := HB.out _ (List.getElem_mem hk)
      have hb0 := hb9.1
      have hb1 := hb9.2
      have hkk : ((bs.length - 1 : Nat) : Int) < bs.length := by omega
      have hm0 : 0 ≤ (n : Int) % 8 := by omega
      have hm1 : (n : Int) % 8 < 64 := by omega
      have hm7 : (n : Int) % 8 ≤ 7 := by omega
      clear hl h8 hb9
      go_enter Tryz.func253, Tryz.ntmps253
      go_wp2_with fail
      refine (bmake_calls n hn _).mono ?_
      rintro e w1 ⟨A1, c1, rfl, hg, ho⟩
      rw [show (makeB n).length = (n + 7) / 8 from by simp [makeB]]
      have HG := Lib.hid hg
      have q2 := hg.cell q1 (fun h => h)
      clear hg ho q1
      go_wp2
      go_ret
      exact ⟨by rw [← HR.out]; rfl, HG.out⟩
  · have HR : Hid (rightBits bs n = false) := Lib.hid (by unfold rightBits; simp [hl])
    have hlb : (((bs.length : Nat) : Int) != (((n + 7) / 8 : Nat) : Int)) = true := by
      rw [bne_iff_ne]; exact fun e => hl (by exact_mod_cast e)
    clear hl
    go_enter Tryz.func253, Tryz.ntmps253
    go_wp2_with fail
    refine (bmake_calls n hn _).mono ?_
    rintro e w1 ⟨A1, c1, rfl, hg, ho⟩
    rw [show (makeB n).length = (n + 7) / 8 from by simp [makeB]]
    have HG := Lib.hid hg
    clear hg ho
    go_wp2
    go_ret
    exact ⟨by rw [HR.out]; rfl, HG.out⟩
end Go.Proofs.YtfkcpaahdlkcdaaGreat

import Derived.Test.YtfkcpaahdlkcdaaGreatRRecvQuota01
import Derived.Test.YtfkcpaahdlkcdaaGreatRRecvQuota06
import Derived.Test.YtfkcpaahdlkcdaaGreatProg
import Derived.LoopTactic
import Derived.Maps.OwnSet
import Derived.Laws.StructEq
set_option linter.unusedSimpArgs false
set_option linter.unusedVariables false
set_option maxRecDepth 100000
set_option maxHeartbeats 16000000
namespace Go.Proofs.YtfkcpaahdlkcdaaGreat
open Go.RowKit Go.Shelf
attribute [local go_sem] Oper.semAt_some
theorem clone64_calls (v : Value) (l : List Int) (w : World) (h : SliceR 1 v l.length (u64s l) w) (hl : l.length ≤ 1000000) :
    Calls Tryz.prog 184 #[v] w fun e w' => ∃ A c, e = .returned (.slice A l.length c) ∧ w'.ownsRow w.heap.size 22 1 (.slice A l.length c) l.length (u64s l) ∧ Grow w w' := by
 have Hs := LH ((h.grow ((Keep.refl _ _).alloc (.cells #[] 22))).src u_u64s (u64s_one l))
 have HL := LH hl
 clear hl
 have hq := eql_nil u_u64s
 obtain ⟨A, c, rfl, hlc, _, hA, _⟩ := h
 cases A with
 | none =>
  have h0 : l = [] := List.eq_nil_of_length_eq_zero (by have := hA rfl; omega)
  subst h0
  go_enter Tryz.func184, Tryz.ntmps184
  go_wp2
  go_ret
  exact ⟨none, 0, rfl, World.ownsRow_nil _ _ _ _, Keep.refl _ _⟩
 | some ad =>
  go_enter Tryz.func184, Tryz.ntmps184
  go_wp2_with (at_builtin; refine wpList_app _ rfl _ _ 111 111 rfl w.heap.size 22 (.int .u64 0) 1 8 u_u64s info_u64 rfl (.slice (some ⟨w.heap.size, 0, none⟩) 0 0) 0 [] rfl (.slice (some ad) l.length c) l.length (u64s l) rfl ?_ ?c0 ?c1 ?c2 ?c3 ?c4; intro v' w' hap)
  case c0 => exact World.ownsRow_made w #[] 0 (Nat.le_refl _) (by simp [maxLen]) rfl
  case c1 => exact Hs.out
  case c2 => have := HL.out; simp only [maxLen]; omega
  case c3 => have := HL.out; omega
  case c4 => simp
  have ho := hap.own
  simp only [Nat.zero_add, List.nil_append] at ho
  have hg := ((Keep.refl NoB w).alloc (.cells #[] 22)).grown hap.grew (by simp [Value.ownBlock])
  clear hap
  obtain ⟨A, c2, rfl, _⟩ := own_slice ho
  go_wp2
  go_ret
  exact ⟨_, _, rfl, ho, hg⟩
def popN (c : Nat) : Nat := (bitL c).length
theorem pop_le : ∀ c : Fin 256, popN c.1 ≤ 8 := by decide +kernel
theorem ones_calls (c : Nat) (hc : c < 256) (w : World) : Calls Tryz.prog 185 #[.int .u8 c] w fun e w' => e = .returned (.int .i64 (popN c : Nat)) ∧ w = w' := by
 have h0 : (0 : Int) ≤ c := by omega
 have h1 : (c : Int) ≤ 255 := by omega
 go_enter Tryz.func185, Tryz.ntmps185
 go_wp2
 go_ret
 refine ⟨?_, rfl⟩
 have key : ∀ x : Int, x = (popN c : Nat) → Ending.returned (Value.int .i64 x) = Ending.returned (.int .i64 (popN c : Nat)) := by rintro _ rfl; rfl
 refine key _ ?_
 have at_ : ∀ (A : ByteArray) (h : c < A.size), A[c] = A.data.toList.getD c 0 := fun A h => by
  rw [List.getD_eq_getElem?_getD, List.getElem?_eq_getElem (by simpa using h)]
  rfl
 rw [at_]
 clear at_ key
 obtain ⟨d, rfl⟩ : ∃ d : Fin 256, d.1 = c := ⟨⟨c, hc⟩, rfl⟩
 rename_i hx; clear hx h0 h1 hc; revert d
 decide +kernel
def popB (bs : List Int) : Nat := (eachL bs).length
theorem eachT_len (bs : List Int) (k : Nat) : (eachT bs (k + 1)).length = (eachT bs k).length + popN (bs.getD k 0).toNat := by
 rw [eachT_succ, List.length_append, List.length_map]; rfl
theorem eachT_le (bs : List Int) (hb : OkB bs) : ∀ k, (eachT bs k).length ≤ 8 * k
 | 0 => by simp [eachT]
 | k + 1 => by
  rw [eachT_len]
  have h1 := eachT_le bs hb k
  have h2 : (bs.getD k 0).toNat < 256 := by
   rw [List.getD_eq_getElem?_getD]
   cases h : bs[k]? with
   | none => simp
   | some x =>
    have := hb x (List.mem_of_getElem? h)
    simp
    omega
  have h3 := pop_le ⟨_, h2⟩
  dsimp only at h3
  omega
theorem bcount_calls (A : Option Addr) (c : Nat) (bs : List Int) (hb : OkB bs) (hlen : bs.length ≤ 100000) (w : World) (h : SliceR 1 (.slice A bs.length c) bs.length (u8s bs) w) :
    Calls Tryz.prog 116 #[.slice A bs.length c] w fun e w' => e = .returned (.int .i64 (popB bs : Nat)) ∧ w = w' := by
 have H := LH h
 have HB := LH hb
 clear h hb
 go_enter Tryz.func116, Tryz.ntmps116
 go_wp2
 go_loopw [3, 5, 8] (fun vn vc v wr => wr = w ∧ ∃ (k n : Nat), k ≤ bs.length ∧ v = .int .i64 k ∧ vn = .int .i64 n ∧ Hid (n = (eachT bs k).length) ∧ n ≤ 8 * k) (fun _ _ v _ => bs.length - (intOf v).toNat)
 case atStart => exact ⟨rfl, 0, 0, by omega, rfl, rfl, LH (by simp [eachT]), by omega⟩
 case round =>
  obtain ⟨rfl, k, n, hk, rfl, rfl, HN, hn8⟩ := hrel
  by_cases hlt : k < bs.length
  ·have hlt' : (k : Int) < bs.length := by omega
   have hw : IntKind.i64.wrap ((k : Int) + 1) = (k : Int) + 1 := IntWalk.i64_in _ (by omega)
   obtain ⟨ad, rfl, q0⟩ := SliceR.int_at (k := .u8) H.out k hlt
   have hx := HB.out _ (List.getElem_mem hlt)
   obtain ⟨c0, hc0⟩ : ∃ c0 : Nat, bs[k] = c0 := ⟨bs[k].toNat, by omega⟩
   have hbd : (bs.getD k 0).toNat = c0 := by rw [List.getD_eq_getElem?_getD, List.getElem?_eq_getElem hlt, Option.getD_some, hc0]; rfl
   have hlen2 := eachT_len bs k
   have hle2 := eachT_le bs HB.out (k + 1)
   rw [hbd] at hlen2
   rw [hc0] at q0
   have hc256 : c0 < 256 := by omega
   have HE : Hid (n + popN c0 = (eachT bs (k + 1)).length ∧ n + popN c0 ≤ 8 * (k + 1)) := LH (by have := HN.out; omega)
   have hw2 : IntKind.i64.wrap ((n : Int) + (popN c0 : Nat)) = (n : Int) + (popN c0 : Nat) := IntWalk.i64_in _ (by have := HE.out; omega)
   clear hx hc0 hbd hlen2 hle2 HN
   go_wp2_with fail
   refine (ones_calls c0 hc256 wr).mono ?_
   rintro e w1 ⟨rfl, rfl⟩
   go_wp2
   go_roundw
   case rel => exact ⟨trivial, k + 1, n + popN c0, by omega, by go_num, by go_num, LH HE.out.1, HE.out.2⟩
   case measure => simp [intOf]; omega
  ·obtain rfl : k = bs.length := by omega
   have hlt' : ¬ ((bs.length : Int) < bs.length) := by omega
   have HE : Hid ((popB bs : Nat) = n) := LH (by rw [HN.out]; rfl)
   clear HN
   go_wp2
   go_ret
   exact ⟨by rw [HE.out]; rfl, rfl⟩
def sizeN (l : List Int) (i : Nat) : Int := min 64 (8 * l.sum - 64 * i)
theorem msize_calls (session : Int) (sum : Nat) (A : Option Addr) (c : Nat) (l : List Int) (w : World) (h : SliceR 1 (.slice A l.length c) l.length (ints l) w) (hf : fitsB l = true) (i : Nat) (hi : i < chunksN l) :
    Calls Tryz.prog 168 #[.agg #[.int .u64 session, .slice A l.length c, .int .u32 (sum : Nat)], .int .i64 i] w fun e w' => e = .returned (.int .i64 (sizeN l i)) ∧ Grow w w' := by
 have HG := LH ((Keep.refl NoB w).alloc (.cells #[.int .u64 session, .slice A l.length c, .int .u32 (sum : Nat)] 40))
 have H := LH (h.grow HG.out)
 have HC := LH (heap_alloc_new w (.cells #[.int .u64 session, .slice A l.length c, .int .u32 (sum : Nat)] 40))
 have HF := LH hf
 obtain ⟨m0, m1, m2, mf⟩ := cells3 HC.out
 obtain ⟨hl1, hl2, hnn, hsum⟩ := fits_parts hf
 have hq : chunksN l ≤ 512 := by unfold chunksN; omega
 have hs0 : 0 ≤ l.sum := by have := sum_nn hnn; omega
 have hi0 : 0 ≤ (i : Int) := by omega
 have hi0' : ¬ ((i : Int) < 0) := by omega
 have hi1 : ¬ ((chunksN l : Int) ≤ (i : Int)) := by omega
 clear h hf hnn
 go_enter Tryz.func168, Tryz.ntmps168
 go_wp2_with fail
 refine (mchunks_calls session sum A c l _ H.out HF.out).mono ?_
 rintro e w1 ⟨rfl, hg⟩
 replace HG := LH (HG.out.grow hg)
 replace H := LH (H.out.grow hg)
 replace HC := LH (Grow.heap hg HC.out)
 clear hg m0 m1 m2 mf
 obtain ⟨m0, m1, m2, mf⟩ := cells3 HC.out
 go_wp2_with fail
 refine (mwords_calls session sum A c l _ H.out HF.out).mono ?_
 rintro e w2 ⟨rfl, hg⟩
 replace HG := LH (HG.out.grow hg)
 have hw1 : IntKind.i64.wrap (l.sum * 8) = l.sum * 8 := IntWalk.i64_in _ (by omega)
 have hw2 : IntKind.i64.wrap ((i : Int) * 64) = (i : Int) * 64 := IntWalk.i64_in _ (by omega)
 have hw3 : IntKind.i64.wrap (l.sum * 8 - (i : Int) * 64) = l.sum * 8 - (i : Int) * 64 := IntWalk.i64_in _ (by omega)
 have HE : Hid (sizeN l i = min 64 (l.sum * 8 - (i : Int) * 64)) := LH (by unfold sizeN; omega)
 clear hg
 by_cases hm : 64 ≤ l.sum * 8 - (i : Int) * 64
 ·have HM : Hid (min 64 (l.sum * 8 - (i : Int) * 64) = 64) := LH (by omega)
  go_wp2
  go_ret
  refine ⟨?_, HG.out⟩
  rw [HE.out, HM.out]
  rfl
 ·have HM : Hid (min 64 (l.sum * 8 - (i : Int) * 64) = l.sum * 8 - (i : Int) * 64) := LH (by omega)
  go_wp2
  go_ret
  refine ⟨?_, HG.out⟩
  rw [HE.out, HM.out]
  rfl
end Go.Proofs.YtfkcpaahdlkcdaaGreat
namespace Go.Proofs.YtfkcpaahdlkcdaaGreat
open Go.RowKit Go.Shelf
attribute [local go_sem] Oper.semAt_some
theorem back_calls (A : Option Addr) (n c : Nat) (w : World) :
    Calls Tryz.prog 221 #[.slice A n c] w fun e w' => e = .returned (.func (.func 255) #[] #[.pointer (some ⟨w.heap.size, 0, none⟩)]) ∧ w' = w.alloc (.cells #[.slice A n c] 23) := by
 go_enter Tryz.func221, Tryz.ntmps221
 go_wp2
 go_ret
 exact ⟨rfl, rfl⟩
def backV (bs : List Int) (x : Nat) : Array Value := #[.int .i64 ((bs.length - 1 - x : Nat) : Int), .int .u8 (bs.getD (bs.length - 1 - x) 0)]
theorem back1_in (F : Fence) (n : Nat) (h7 : F.fn 255) (hro : F.round = none) (hn : 1 ≤ n) (l Bs : Nat) (bs : List Int) (hlen : bs.length ≤ 100000) (A : Option Addr) (c : Nat) (Kp : World → World → Prop) (hKt : ∀ {a b c : World}, Kp a b → Kp b c → Kp a c) (w0 : World)
    (hKs : ∀ W, Kp w0 W → W.cell? ⟨Bs, 0, none⟩ = some (.slice A bs.length c) ∧ SliceR 1 (.slice A bs.length c) bs.length (u8s bs) W) (J Jx : List Nat → World → Prop)
    (hY : ∀ pre x W, J pre W → pre.length < bs.length → YieldAt F (n - 1) Tryz.prog l (backV bs x) W fun e W' =>
     (e = .returned (.bool true) ∧ J (pre ++ [x]) W' ∧ Kp W W') ∨ (e = .returned (.bool false) ∧ Jx (pre ++ [x]) W'))
    (W : World) (hW : Kp w0 W) (h0 : J [] W) :
    CallsIn F n Tryz.prog 255 #[.func (.yield l) #[] #[], .pointer (some ⟨Bs, 0, none⟩)] W fun e W' => (∃ v, e = .returned v) ∧
     ((∃ ys, ys = upto (fun k => k) bs.length ∧ J ys W') ∨ (∃ pre, (∃ k, k ≤ bs.length ∧ pre = upto (fun k => k) k) ∧ Jx pre W')) := by
 have HKS := LH hKs
 have HKT := LH (show ∀ a b c : World, Kp a b → Kp b c → Kp a c from fun a b c => hKt)
 have hc0 := (hKs W hW).1
 have hwl : IntKind.i64.wrap ((bs.length : Int) - 1) = (bs.length : Int) - 1 := IntWalk.i64_in _ (by omega)
 refine callsIn_of_wp Tryz.func255 rfl h7 ?_ hro
 simp only [Tryz.ntmps255, List.size_toArray, List.length_cons, List.length_nil, Nat.reduceAdd, Nat.reduceSub, Array.replicate_succ, Array.replicate_zero, List.push_toArray, List.append_toArray, List.nil_append, List.cons_append]
 clear hKs hKt
 gi_wp2
 clear hc0 hwl
 gi_loopw [3] (fun p wr => ∃ (k : Nat) (z : Int), k ≤ bs.length ∧ z = (bs.length : Int) - 1 - k ∧ p = .int .i64 z ∧ Hid (J (upto (fun k => k) k) wr ∧ Kp w0 wr)) (fun p _ => (intOf p + 1).toNat)
 case atStart => exact ⟨0, _, Nat.zero_le _, by simp, rfl, h0, hW⟩
 case round =>
  obtain ⟨k, z, hk, hz, rfl, HJ⟩ := hrel
  obtain ⟨q1, hs⟩ := HKS.out wr HJ.out.2
  by_cases hlt : k < bs.length
  ·obtain ⟨j, rfl⟩ : ∃ j : Nat, z = j := ⟨z.toNat, by omega⟩
   have hj : bs.length - 1 - k = j := by omega
   have hjl : j < bs.length := by omega
   obtain ⟨ad, rfl, q2⟩ := SliceR.int_at (k := .u8) hs j hjl
   obtain ⟨fn, tmps, assign, body, hy, hRR⟩ := hY _ k wr HJ.out.1 (by rw [upto_length]; exact hlt)
   unfold backV at hy
   have hg : bs.getD j 0 = bs[j] := by simp [List.getD_eq_getElem?_getD, hjl]
   rw [hj, hg] at hy
   have HRR := LH hRR
   have hj0 : 0 ≤ (j : Int) := by omega
   have hjl' : (j : Int) < bs.length := by omega
   have hwj : IntKind.i64.wrap ((j : Int) - 1) = (j : Int) - 1 := IntWalk.i64_in _ (by omega)
   have HZ := LH hz
   clear hRR hs hz hj hg
   gi_wp2
   refine HRR.out.mono ?_
   rintro e W3 (⟨rfl, hJ3, hk3⟩ | ⟨rfl, hJx3⟩)
   ·have HJ3 : Hid (J (upto (fun k => k) (k + 1)) W3 ∧ Kp w0 W3) := LH ⟨by rw [upto_succ]; exact hJ3, HKT.out _ _ _ HJ.out.2 hk3⟩
    clear hJ3 hk3 q1 q2
    gi_wp2
    go_roundw
    case rel => exact ⟨k + 1, (j : Int) - 1, by omega, by have := HZ.out; omega, rfl, HJ3⟩
    case measure => simp [intOf]
   ·have HX := LH hJx3
    clear hJx3
    gi_wp2
    refine bodyPost_ret (results_none rfl _ _ _) rfl ?_
    exact ⟨⟨_, rfl⟩, .inr ⟨_, ⟨k + 1, hlt, (upto_succ _ _).symm⟩, HX.out⟩⟩
  ·obtain rfl : k = bs.length := by omega
   have hz0 : ¬ (0 ≤ z) := by omega
   have HJ2 := LH HJ.out.1
   clear HJ hz
   gi_wp2
   go_end0
   exact ⟨⟨_, rfl⟩, .inl (by simpa using HJ2.out)⟩
theorem back_stops (F : Fence) (n : Nat) (h7 : F.fn 255) (hro : F.round = none) (hn : 1 ≤ n) (bs : List Int) (hlen : bs.length ≤ 100000) (A : Option Addr) (c : Nat) (w0 : World) (hR : SliceR 1 (.slice A bs.length c) bs.length (u8s bs) w0) (Bs : Nat) (w : World) (hw : Below w0.heap.size w0 w)
    (hBs : Boxed w Bs 23 (.slice A bs.length c)) :
    SeqStopsK F n Tryz.prog 255 #[.pointer (some ⟨Bs, 0, none⟩)] (backV bs) (KeepB w0.heap.size (fun k => k = Bs)) (fun ys => ys = upto (fun k => k) bs.length)
     (fun pre => ∃ k, k ≤ bs.length ∧ pre = upto (fun k => k) k) bs.length w := fun l J Jx W hW _ _ hY h0 =>
 back1_in F n h7 hro hn l Bs bs hlen A c (KeepB w0.heap.size (fun k => k = Bs)) (fun h k => h.trans k) W
  (fun W' hK => ⟨Boxed.cell (t := 23) ((hK.same _ rfl).trans ((hW.block Bs hBs.lt).trans hBs)), hR.grow (Keep.of_below ((hw.trans (hW.mono hw.size)).trans hK.below))⟩) J Jx hY W (KeepB.refl _ _ _) h0
def leW : List Int → Int
 | [] => 0
 | b :: r => b + 256 * leW r
def valP (bs : List Int) (pre : List Nat) : Int := pre.foldl (fun n x => n * 256 + bs.getD (bs.length - 1 - x) 0) 0
theorem valP_snoc (bs : List Int) (pre : List Nat) (x : Nat) : valP bs (pre ++ [x]) = valP bs pre * 256 + bs.getD (bs.length - 1 - x) 0 := by simp [valP]
theorem getD_in {bs : List Int} (hb : OkB bs) (i : Nat) : 0 ≤ bs.getD i 0 ∧ bs.getD i 0 ≤ 255 := by
 rw [List.getD_eq_getElem?_getD]
 cases h : bs[i]? with
 | none => simp
 | some x => exact hb x (List.mem_of_getElem? h)
theorem valP_in {bs : List Int} (hb : OkB bs) : ∀ (m : Nat) (pre : List Nat), pre.length = m → 0 ≤ valP bs pre ∧ valP bs pre < 256 ^ m
 | 0, pre, h => by
  obtain rfl : pre = [] := List.eq_nil_of_length_eq_zero h
  simp [valP]
 | m + 1, pre, h => by
  have hne : pre ≠ [] := fun e => by rw [e] at h; simp at h
  obtain ⟨p, x, rfl⟩ : ∃ p x, pre = p ++ [x] := ⟨pre.dropLast, pre.getLast hne, (List.dropLast_concat_getLast hne).symm⟩
  have ih := valP_in hb m p (by simpa using h)
  have hx := getD_in hb (bs.length - 1 - x)
  rw [valP_snoc]
  have e : (256 : Int) ^ (m + 1) = 256 ^ m * 256 := Int.pow_succ ..
  rw [e]
  omega
theorem leW_drop (bs : List Int) : ∀ k, k ≤ bs.length → valP bs (upto (fun k => k) k) = leW (bs.drop (bs.length - k))
 | 0, _ => by simp [valP, upto, leW]
 | k + 1, h => by
  rw [upto_succ, valP_snoc, leW_drop bs k (by omega)]
  have hl : bs.length - (k + 1) < bs.length := by omega
  rw [show bs.drop (bs.length - (k + 1)) = bs[bs.length - (k + 1)] :: bs.drop (bs.length - (k + 1) + 1) from List.drop_eq_getElem_cons hl]
  rw [show bs.length - (k + 1) + 1 = bs.length - k from by omega]
  simp only [leW]
  rw [show bs.length - 1 - k = bs.length - (k + 1) from by omega, List.getD_eq_getElem?_getD, List.getElem?_eq_getElem hl]
  simp
  omega
theorem leW_all (bs : List Int) : valP bs (upto (fun k => k) bs.length) = leW bs := by
 rw [leW_drop bs bs.length (Nat.le_refl _)]; simp
theorem leW_in {bs : List Int} (hb : OkB bs) (h8 : bs.length ≤ 8) : 0 ≤ leW bs ∧ leW bs ≤ 18446744073709551615 := by
 have h := valP_in hb bs.length (upto (fun k => k) bs.length) (upto_length _ _)
 rw [leW_all] at h
 have h2 : (256 : Int) ^ bs.length ≤ 256 ^ 8 := by
  have := Nat.pow_le_pow_right (show 0 < 256 by decide) h8
  have e : ((256 ^ bs.length : Nat) : Int) = (256 : Int) ^ bs.length := by rw [Int.natCast_pow]; rfl
  have e8 : ((256 ^ 8 : Nat) : Int) = (256 : Int) ^ 8 := by rw [Int.natCast_pow]; rfl
  omega
 have h3 : (256 : Int) ^ 8 = 18446744073709551616 := by decide
 omega
theorem or_add {v b : Int} (h0 : 0 ≤ v) (h1 : v ≤ 72057594037927935) (h2 : 0 ≤ b) (h3 : b ≤ 255) : bits .or .u64 (v * 256) b = v * 256 + b := by
 obtain ⟨n, rfl⟩ : ∃ n : Nat, v = n := ⟨v.toNat, by omega⟩
 obtain ⟨m, rfl⟩ : ∃ m : Nat, b = m := ⟨b.toNat, by omega⟩
 have h8 : (2 : Nat) ^ 8 = 256 := rfl
 have h := Nat.two_pow_add_eq_or_of_lt (i := 8) (b := m) (by rw [h8]; omega) n
 rw [h8] at h
 have e : (n : Int) * 256 = ((256 * n : Nat) : Int) := by omega
 rw [e, u64_or_nat (256 * n) m (by omega) (by omega), ← h]
 omega
theorem wget_calls (ad : Addr) (c : Nat) (l : List Int) (hb : OkB l) (h8 : l.length ≤ 8) (w : World) (hR : SliceR 1 (.slice (some ad) l.length c) l.length (u8s l) w) :
    Calls Tryz.prog 170 #[.slice (some ad) l.length c] w fun e w' => e = .returned (.int .u64 (leW l)) ∧ Grow w w' := by
 have hmin : min ((l.length : Nat) : Int) 8 = l.length := by omega
 have hcap : l.length ≤ c := by
  obtain ⟨A', c', e, hc, _, hA, _⟩ := hR
  injection e with e1 e2 e3
  subst e3
  exact hc
 have hin : 0 ≤ (l.length : Int) ∧ (l.length : Int) ≤ c := by omega
 refine (callsIn_wide (n := 3)).1 ?_
 refine callsIn_of_wp_marks Tryz.func170 rfl trivial ?_ rfl
 simp only [Tryz.ntmps170, List.size_toArray, List.length_cons, List.length_nil, Nat.reduceAdd, Nat.reduceSub, Array.replicate_succ, Array.replicate_zero, List.push_toArray, List.append_toArray, List.nil_append, List.cons_append]
 gi_wp2_with (refine ⟨trivial, ?_⟩; gi_at_call 221; refine (callsIn_wide.2 (back_calls (some ad) l.length c _)).mono ?_; rintro e w' ⟨rfl, rfl⟩)
 have bN := Boxed.new w 22 (.int .u64 0)
 have bS := Boxed.new (w.alloc (.cells #[.int .u64 0] 22)) 23 (.slice (some ad) l.length c)
 have c1 := bN.alloc (.cells #[.slice (some ad) l.length c] 23)
 simp only [World.size_alloc] at bS
 have hB0 : Below w.heap.size w ((w.alloc (.cells #[.int .u64 0] 22)).alloc (.cells #[.slice (some ad) l.length c] 23)) := ((Below.refl _ w).alloc (Nat.le_refl _) _).alloc (by simp) _
 obtain ⟨W0, hW0⟩ : ∃ W0, ((w.alloc (.cells #[.int .u64 0] 22)).alloc (.cells #[.slice (some ad) l.length c] 23)) = W0 := ⟨_, rfl⟩
 have hsz : W0.heap.size = w.heap.size + 2 := by rw [← hW0]; simp
 rw [hW0] at c1 bS hB0 ⊢
 clear hW0 bN
 refine wpIn_rangeFunc_ownG rfl (show 1 ≤ 3 by omega) (gf := 255) (lb := #[.pointer (some ⟨w.heap.size + 1, 0, none⟩)]) rfl trivial (enters_of Tryz.func255 (by kernel_rfl) rfl)
  (back_stops Fence.wide _ trivial rfl (by omega) l (by omega) (some ad) c w hR (w.heap.size + 1) W0 hB0 bS) (fun h k => h.trans k) (KeepB.put (by omega) (by intro k hk; omega)) (Below.refl _ _) (fun _ => rfl)
  (fun pre W => Boxed W w.heap.size 22 (.int .u64 (valP l pre)) ∧ Below w.heap.size w W)
  (fun _ _ _ => False)
  (fun s W W' row hs hg hr => ⟨hs.1.kept hg (fun e => by have := (hr _ e.symm).1; omega), ownFrom_below (β := Unit) (Nat.le_refl _) (show w.heap.size ≤ W0.heap.size by omega) () W W' row hs.2 hg hr⟩)
  (fun _ _ _ _ _ hs _ _ => hs)
  ⟨c1, hB0⟩
  (fun x => { tmps := #[.slice (some ad) l.length c, undef, .int .u64 0, .pointer (some ⟨w.heap.size, 0, none⟩), undef, .int .u8 (l.getD (l.length - 1 - x) 0), .slice (some ad) l.length c, .slice (some ad) l.length c, .int .i64 l.length, .int .i64 l.length, .slice (some ad) l.length c, .func (.func 255) #[] #[.pointer (some ⟨w.heap.size + 1, 0, none⟩)], .int .i64 ((l.length - 1 - x : Nat) : Int), .int .u8 (l.getD (l.length - 1 - x) 0), undef, undef, undef, undef, undef, undef], defers := [] }) ?assign ?body ?done ?stop
 case assign =>
  intro l' x W K hK
  unfold backV
  gi_wp2
  exact hK
 case body =>
  rintro l' pre x W ⟨hN, hB⟩ hlt
  have hx := getD_in hb (l.length - 1 - x)
  have hv := valP_in hb pre.length pre rfl
  have hp7 : (256 : Int) ^ pre.length ≤ 256 ^ 7 := by
   have := Nat.pow_le_pow_right (show 0 < 256 by decide) (show pre.length ≤ 7 by omega)
   have e : ((256 ^ pre.length : Nat) : Int) = (256 : Int) ^ pre.length := by rw [Int.natCast_pow]; rfl
   have e8 : ((256 ^ 7 : Nat) : Int) = (256 : Int) ^ 7 := by rw [Int.natCast_pow]; rfl
   omega
  have h3 : (256 : Int) ^ 7 = 72057594037927936 := by decide
  have HS := LH (valP_snoc l pre x)
  obtain ⟨v, hvv⟩ : ∃ v, valP l pre = v := ⟨_, rfl⟩
  obtain ⟨b, hbb⟩ : ∃ b, l.getD (l.length - 1 - x) 0 = b := ⟨_, rfl⟩
  rw [hvv, hbb] at HS
  rw [hbb] at hx ⊢
  rw [hvv] at hv hN
  have hv1 : v ≤ 72057594037927935 := by omega
  have hv0 := hv.1
  have hb0 := hx.1
  have hb1 := hx.2
  have q1 := hN.cell
  have f1 := hN.frozen
  have HN := LH hN
  have HB := LH hB
  clear hvv hbb hv hx hp7 h3 hN hB
  gi_wp2
  refine ⟨(KeepsOthers.setCell _ _ _).from _, (KeepB.refl _ _ _).set (Nat.le_refl _) (by intro k hk; omega) _, ?_, HB.out.setCell (p := ⟨w.heap.size, 0, none⟩) (Nat.le_refl _) _⟩
  rw [HS.out, or_add hv0 hv1 hb0 hb1]
  exact HN.out.set _
 case done =>
  rintro D ys W hD rfl ⟨hN, hB⟩ hK
  rw [leW_all] at hN
  have hc := hN.cell
  gi_wp2
  have hc2 := (hN.kept (grownBy_putObj' W D (.deferred none)) (fun e => by injection e; omega)).cell
  refine ⟨by simp, .inl ⟨_, _, rfl, run_takeDeferred hK, ?_⟩⟩
  refine ⟨_, results_tmp rfl _ _ _, rfl, Keep.of_below (hB.trans (belowK_b (w := w) (Nat.le_refl _) W D _ _ (by omega) hK rfl rfl))⟩
 case stop =>
  rintro D c' pre W _ _ h _
  exact h.elim
end Go.Proofs.YtfkcpaahdlkcdaaGreat
namespace Go.Proofs.YtfkcpaahdlkcdaaGreat
open Go.RowKit Go.Shelf
attribute [local go_sem] Oper.semAt_some
theorem cells6' {w : World} {g T : Nat} {a0 a1 a2 a3 a4 a5 : Value} (h : w.heap[g]? = some (.cells #[a0, a1, a2, a3, a4, a5] T (0, 0))) : w.cell? ⟨g, 0, none⟩ = some a0 ∧ w.cell? ⟨g, 1, none⟩ = some a1 ∧ w.cell? ⟨g, 2, none⟩ = some a2 ∧ w.cell? ⟨g, 3, none⟩ = some a3 ∧ w.cell? ⟨g, 4, none⟩ = some a4 ∧ w.cell? ⟨g, 5, none⟩ = some a5 ∧ ∀ o, w.frozen? ⟨g, o, none⟩ = false :=
 ⟨World.news_of_block h 0 _ rfl, World.news_of_block h 1 _ rfl, World.news_of_block h 2 _ rfl, World.news_of_block h 3 _ rfl, World.news_of_block h 4 _ rfl, World.news_of_block h 5 _ rfl, fun o => frozen0 o h⟩
structure Par where
 session : Int
 sz : List Int
 sum : Nat
 words : List Int
 known : List Int
structure PP where
 As : Option Addr
 cs : Nat
 wb : Nat
 cw : Nat
 Ak : Option Addr
 ck : Nat
structure OkP (d : Par) : Prop where
 s0 : 0 ≤ d.session
 s1 : d.session ≤ 18446744073709551615
 sum : d.sum < 4294967296
 fit : fitsB d.sz = true
 wlen : (d.words.length : Int) = d.sz.sum
 win : ∀ x ∈ d.words, 0 ≤ x ∧ x ≤ 18446744073709551615
 known : OkB d.known
 klen : d.known.length = (chunksN d.sz + 7) / 8
structure PAt (b : Nat) (p : PP) (d : Par) (G : Nat → Prop) (w : World) : Prop where
 cell : w.heap[b]? = some (.cells #[.int .u64 d.session, .slice p.As d.sz.length p.cs, .int .u32 (d.sum : Nat), .slice p.As d.sz.length p.cs, .slice (some ⟨p.wb, 0, none⟩) d.words.length p.cw, .slice p.Ak d.known.length p.ck] 247 (0, 0))
 row : w.ownsRow 0 22 1 (.slice (some ⟨p.wb, 0, none⟩) d.words.length p.cw) d.words.length (u64s d.words)
 ro : Foot (fun w => SliceR 1 (.slice p.As d.sz.length p.cs) d.sz.length (ints d.sz) w ∧ SliceR 1 (.slice p.Ak d.known.length p.ck) d.known.length (u8s d.known) w) w G
 dis : b ≠ p.wb ∧ ¬ G b ∧ ¬ G p.wb
 ok : OkP d
theorem PAt.keep {b : Nat} {p : PP} {d : Par} {G S : Nat → Prop} {w w' : World} (h : PAt b p d G w) (hk : Keep S w w') (hb : ¬ S b) (hw : ¬ S p.wb) (hG : ∀ k, G k → ¬ S k) : PAt b p d G w' :=
 ⟨(hk.block b (gE h.cell).1 hb).trans h.cell, own_keep h.row hk (fun k hq => by cases hq; exact hw), h.ro.keep hk hG, h.dis, h.ok⟩
theorem PAt.grow {b : Nat} {p : PP} {d : Par} {G : Nat → Prop} {w w' : World} (h : PAt b p d G w) (hk : Grow w w') : PAt b p d G w' := h.keep hk (fun h => h) (fun h => h) (fun _ _ h => h)
theorem PAt.lt {b : Nat} {p : PP} {d : Par} {G : Nat → Prop} {w : World} (h : PAt b p d G w) : b < w.heap.size ∧ p.wb < w.heap.size := ⟨(gE h.cell).1, (h.row.lt p.wb rfl).2⟩
def setN (ws : List Int) (i : Nat) (bs : List Int) : Nat → List Int
 | 0 => ws
 | k + 1 => (setN ws i bs k).set (i * 8 + k) (leW (pieceL bs 8 k))
def setP (ws : List Int) (i : Nat) (bs : List Int) (pre : List Nat) : List Int := (List.range pre.length).foldl (fun l k => l.set (i * 8 + k) (leW (pieceL bs 8 (pre.getD k 0)))) ws
theorem setP_snoc (ws : List Int) (i : Nat) (bs : List Int) (pre : List Nat) (x : Nat) : setP ws i bs (pre ++ [x]) = (setP ws i bs pre).set (i * 8 + pre.length) (leW (pieceL bs 8 x)) := by
 unfold setP
 rw [List.length_append, List.length_singleton, List.range_succ, List.foldl_append]
 have e : ∀ (m : Nat) (l : List Int), m ≤ pre.length → (List.range m).foldl (fun l k => l.set (i * 8 + k) (leW (pieceL bs 8 ((pre ++ [x]).getD k 0)))) l = (List.range m).foldl (fun l k => l.set (i * 8 + k) (leW (pieceL bs 8 (pre.getD k 0)))) l := by
  intro m
  induction m with
  | zero => intro l _; rfl
  | succ m ih =>
   intro l hm
   rw [List.range_succ, List.foldl_append, List.foldl_append, ih l (by omega)]
   have e2 : (pre ++ [x]).getD m 0 = pre.getD m 0 := by
    rw [List.getD_eq_getElem?_getD, List.getD_eq_getElem?_getD, List.getElem?_append_left (by omega)]
   simp only [List.foldl_cons, List.foldl_nil, e2]
 rw [e _ _ (Nat.le_refl _)]
 have e3 : (pre ++ [x]).getD pre.length 0 = x := by simp [List.getD_eq_getElem?_getD]
 simp only [List.foldl_cons, List.foldl_nil, e3]
theorem setP_upto (ws : List Int) (i : Nat) (bs : List Int) : ∀ m, setP ws i bs (upto (fun k => k) m) = setN ws i bs m
 | 0 => rfl
 | m + 1 => by
  rw [upto_succ, setP_snoc, setP_upto ws i bs m, upto_length]
  rfl
theorem setN_length (ws : List Int) (i : Nat) (bs : List Int) : ∀ m, (setN ws i bs m).length = ws.length
 | 0 => rfl
 | m + 1 => by unfold setN; rw [List.length_set]; exact setN_length ws i bs m
theorem setP_length (ws : List Int) (i : Nat) (bs : List Int) (pre : List Nat) : (setP ws i bs pre).length = ws.length := by
 unfold setP
 generalize List.range pre.length = r
 induction r generalizing ws with
 | nil => rfl
 | cons x r ih => rw [List.foldl_cons, ih, List.length_set]
theorem u64s_sec (l : List Int) (i : Nat) (x : Int) : (u64s l).set i (.int .u64 x) = u64s (l.set i x) := by
 simp [u64s, List.map_set]
theorem pieceL8 (bs : List Int) (k : Nat) : (pieceL bs 8 k).length ≤ 8 := by rw [pieceL_length]; unfold chL; omega
theorem OkB.piece {bs : List Int} (h : OkB bs) (each k : Nat) : OkB (pieceL bs each k) := fun c hc => h c (List.mem_of_mem_drop (List.mem_of_mem_take hc))
def putD (d : Par) (i : Nat) (bs : List Int) : Par := if getB d.known i = true then d else { d with words := setN d.words i bs (bs.length / 8), known := setB d.known i }
theorem setN_in {ws : List Int} (hw : ∀ x ∈ ws, 0 ≤ x ∧ x ≤ 18446744073709551615) {bs : List Int} (hb : OkB bs) (i : Nat) : ∀ m, ∀ x ∈ setN ws i bs m, 0 ≤ x ∧ x ≤ 18446744073709551615
 | 0 => hw
 | m + 1 => fun x hx => by
  unfold setN at hx
  rcases List.mem_or_eq_of_mem_set hx with h | rfl
  ·exact setN_in hw hb i m x h
  ·exact leW_in (hb.piece 8 m) (pieceL8 bs m)
theorem own_cap {base e size n : Nat} {A : Option Addr} {m c : Nat} {xs : List Value} {w : World} (h : w.ownsRow base e size (.slice A m c) n xs) : n ≤ c := by
 obtain ⟨A', c', e', hc, _⟩ := own_slice h
 injection e' with _ _ e3
 subst e3
 exact hc
theorem addr0_add (g j : Nat) : (⟨g, 0, none⟩ : Addr).add j = ⟨g, j, none⟩ := by
 unfold Addr.add
 split
 ·rename_i h; rw [h]
 ·simp
theorem KeepB.setAt {B : Nat} {X : Nat → Prop} {a c : World} (h : KeepB B X a c) {p : Addr} (hg : B ≤ p.block) (hX : ∀ k, X k → k ≠ p.block) (u : Value) : KeepB B X a (c.setCell p u) :=
 ⟨h.below.setCell hg u, fun k hk => (Below.heap_setCell c p u k (hX k hk)).trans (h.same k hk)⟩
theorem KeepB.grow {B : Nat} {X : Nat → Prop} {a c w : World} (h : KeepB B X a c) (hB : B ≤ c.heap.size) (hX : ∀ k, X k → k < c.heap.size) (hg : Grow c w) : KeepB B X a w :=
 h.trans ⟨hg.below B hB (fun _ h => h.elim), fun k hk => hg.block k (hX k hk) (fun h => h)⟩
theorem Boxed.away {W : World} {B : Nat} {t : TypeId} {v : Value} (h : Boxed W B t v) (p : Addr) (hne : B ≠ p.block) (u : Value) : Boxed (W.setCell p u) B t v := (Below.heap_setCell W p u B hne).trans h
theorem pput_new {b : Nat} {p : PP} {d : Par} {G : Nat → Prop} {w : World} (h : PAt b p d G w) (i : Nat) (hi : i < chunksN d.sz) (hgb : getB d.known i = false) (A : Option Addr) (c : Nat) (bs : List Int) (hb : OkB bs) (hl : (bs.length : Int) = sizeN d.sz i) (FS : Nat → Prop) (hS : Foot (SliceR 1 (.slice A bs.length c) bs.length (u8s bs)) w FS) (hF : ∀ k, FS k → k ≠ p.wb) :
    Calls Tryz.prog 106 #[.pointer (some ⟨b, 0, none⟩), .int .i64 (i : Nat), .slice A bs.length c] w fun e w' => e = .returned (.bool true) ∧ ∃ p' G', p'.wb = p.wb ∧ PAt b p' { d with words := setN d.words i bs (bs.length / 8), known := setB d.known i } G' w' ∧ Keep (fun k => k = b ∨ k = p.wb) w w' ∧ ∀ k, G' k → G k ∨ w.heap.size ≤ k := by
 obtain ⟨c0, c1, c2, c3, c4, c5, cf⟩ := cells6' h.cell
 have hq : chunksN d.sz ≤ 512 := by have := fits_parts h.ok.fit; unfold chunksN; omega
 have hi0 : ¬ ((i : Int) < 0) := by omega
 have hi1 : ¬ ((chunksN d.sz : Int) ≤ (i : Int)) := by omega
 have hi2 : decide (chunksN d.sz ≤ i) = false := decide_eq_false (by omega)
 have hne : ((bs.length : Int) != sizeN d.sz i) = false := by rw [hl]; simp
 have HP := LH h
 have HSS := LH hS
 have HGB := LH hgb
 have HB := LH hb
 have HL := LH hl
 have HI := LH hi
 have HFS := LH hF
 clear h hS hgb hb hl hF hi
 refine (callsIn_wide (n := 3)).1 ?_
 refine callsIn_of_wp_marks Tryz.func106 rfl trivial ?_ rfl
 simp only [Tryz.ntmps106, List.size_toArray, List.length_cons, List.length_nil, Nat.reduceAdd, Nat.reduceSub, Array.replicate_succ, Array.replicate_zero, List.push_toArray, List.append_toArray, List.nil_append, List.cons_append]
 gi_wp2_with (refine ⟨trivial, ?_⟩; gi_at_call 64; refine (callsIn_wide.2 (mchunks_calls d.session d.sum p.As p.cs d.sz _ HP.out.ro.now.1 HP.out.ok.fit)).mono ?_; rintro e w1 ⟨rfl, hg⟩; refine Hid.out ?_)
 have HG := LH hg
 refine LH ?_
 replace HP := LH (HP.out.grow hg)
 clear hg c0 c1 c2 c3 c4 c5 cf
 obtain ⟨c0, c1, c2, c3, c4, c5, cf⟩ := cells6' HP.out.cell
 gi_wp2_with (refine ⟨trivial, ?_⟩; gi_at_call 168; refine (callsIn_wide.2 (msize_calls d.session d.sum p.As p.cs d.sz _ HP.out.ro.now.1 HP.out.ok.fit i HI.out)).mono ?_; rintro e w2 ⟨rfl, hg⟩; refine Hid.out ?_)
 replace HG := LH (HG.out.grow hg)
 refine LH ?_
 replace HP := LH (HP.out.grow hg)
 clear hg c0 c1 c2 c3 c4 c5 cf
 obtain ⟨c0, c1, c2, c3, c4, c5, cf⟩ := cells6' HP.out.cell
 have hbg := bget_calls p.Ak p.ck d.known HP.out.ok.known i (by omega) w2 HP.out.ro.now.2
 rw [HGB.out] at hbg
 have HBG := LH hbg
 clear hbg
 have hwl := HP.out.ok.wlen
 have hch : 8 * i < d.words.length := by
  have := HI.out
  unfold chunksN at this
  omega
 have hn9 : d.words.length ≤ 4096 := by have := fits_parts HP.out.ok.fit; omega
 have hcw : d.words.length ≤ p.cw := own_cap HP.out.row
 have hcw2 : ¬ (p.cw = i * 8) := by omega
 have hwi : IntKind.i64.wrap ((i : Int) * 8) = (i : Int) * 8 := IntWalk.i64_in _ (by omega)
 have hin : 0 ≤ (i : Int) * 8 ∧ (i : Int) * 8 ≤ d.words.length := by omega
 have HCH := LH hch
 clear hwl hch
 gi_wp2_with (refine ⟨trivial, ?_⟩; gi_at_call 82; refine (callsIn_wide.2 HBG.out).mono ?_; rintro e w3 ⟨rfl, rfl⟩)
 gi_wp2_with (refine ⟨trivial, ?_⟩; gi_at_call 169; refine (callsIn_wide.2 (chunkb_calls A bs.length c 8 (by omega) _)).mono ?_; rintro e w' ⟨rfl, rfl⟩)
 obtain ⟨ad, rfl⟩ : ∃ ad, A = some ad := by
  have h9 : 0 < bs.length := by
   have := HL.out
   have := HCH.out
   have := HP.out.ok.wlen
   unfold sizeN at *
   omega
  obtain ⟨A', c', e, _, _, hA, _⟩ := HSS.out.now
  injection e with e1 e2 e3
  subst e1; subst e3
  cases A with
  | none => have := hA rfl; omega
  | some ad => exact ⟨ad, rfl⟩
 have hbc : bs.length ≤ c := by
  obtain ⟨A', c', e, hc, _, hA, _⟩ := HSS.out.now
  injection e with e1 e2 e3
  subst e3
  exact hc
 have hm8 : chN bs.length 8 ≤ d.words.length - i * 8 ∧ bs.length ≤ 64 ∧ chN bs.length 8 = bs.length / 8 := by
  have := HL.out
  have := HCH.out
  have := HP.out.ok.wlen
  unfold sizeN chN at *
  omega
 have bT : Boxed (w2.alloc (.cells #[.slice (some ⟨p.wb, i * 8, none⟩) (d.words.length - i * 8) (p.cw - i * 8)] 111)) w2.heap.size 111 (.slice (some ⟨p.wb, i * 8, none⟩) (d.words.length - i * 8) (p.cw - i * 8)) := Boxed.new _ _ _
 have bK := Boxed.new (w2.alloc (.cells #[.slice (some ⟨p.wb, i * 8, none⟩) (d.words.length - i * 8) (p.cw - i * 8)] 111)) 3 (.int .i64 0)
 have bS := Boxed.new ((w2.alloc (.cells #[.slice (some ⟨p.wb, i * 8, none⟩) (d.words.length - i * 8) (p.cw - i * 8)] 111)).alloc (.cells #[.int .i64 0] 3)) 23 (.slice (some ad) bs.length c)
 have bN := Boxed.new (((w2.alloc (.cells #[.slice (some ⟨p.wb, i * 8, none⟩) (d.words.length - i * 8) (p.cw - i * 8)] 111)).alloc (.cells #[.int .i64 0] 3)).alloc (.cells #[.slice (some ad) bs.length c] 23)) 3 (.int .i64 8)
 simp only [World.size_alloc] at bK bS bN
 have hG0 : Grow w2 ((((w2.alloc (.cells #[.slice (some ⟨p.wb, i * 8, none⟩) (d.words.length - i * 8) (p.cw - i * 8)] 111)).alloc (.cells #[.int .i64 0] 3)).alloc (.cells #[.slice (some ad) bs.length c] 23)).alloc (.cells #[.int .i64 8] 3)) := ((((Keep.refl NoB w2).alloc _).alloc _).alloc _).alloc _
 have x1 := ((bT.alloc (.cells #[.int .i64 0] 3)).alloc (.cells #[.slice (some ad) bs.length c] 23)).alloc (.cells #[.int .i64 8] 3)
 have x2 := (bK.alloc (.cells #[.slice (some ad) bs.length c] 23)).alloc (.cells #[.int .i64 8] 3)
 have x3 := bS.alloc (.cells #[.int .i64 8] 3)
 obtain ⟨W0, hW0⟩ : ∃ W0, ((((w2.alloc (.cells #[.slice (some ⟨p.wb, i * 8, none⟩) (d.words.length - i * 8) (p.cw - i * 8)] 111)).alloc (.cells #[.int .i64 0] 3)).alloc (.cells #[.slice (some ad) bs.length c] 23)).alloc (.cells #[.int .i64 8] 3)) = W0 := ⟨_, rfl⟩
 have hsz : W0.heap.size = w2.heap.size + 4 := by rw [← hW0]; simp
 rw [hW0] at bN x1 x2 x3 hG0 ⊢
 clear hW0 bT bK bS
 have hr0 := (HP.out.grow hG0).row
 have hlt2 := HP.out.lt
 refine wpIn_rangeFunc_ownG rfl (show 1 ≤ 3 by omega) (gf := 220) (lb := #[.pointer (some ⟨w2.heap.size + 1 + 1, 0, none⟩), .pointer (some ⟨w2.heap.size + 1 + 1 + 1, 0, none⟩)]) rfl trivial (enters_of Tryz.func220 (by kernel_rfl) rfl)
  (chunkb_stops Fence.wide _ trivial rfl (by omega) (w2.heap.size + 1 + 1) (w2.heap.size + 1 + 1 + 1) 0 bs.length 8 (by omega) (by omega) (by omega) (some ad) c hbc (by simp) W0 x3 bN) (fun h k => h.trans k) (KeepB.put (by omega) (by intro k hk; omega)) (Below.refl _ _) (fun _ => rfl)
  (fun pre W => Boxed W w2.heap.size 111 (.slice (some ⟨p.wb, i * 8, none⟩) (d.words.length - i * 8) (p.cw - i * 8)) ∧ Boxed W (w2.heap.size + 1) 3 (.int .i64 pre.length) ∧ W.ownsRow 0 22 1 (.slice (some ⟨p.wb, 0, none⟩) d.words.length p.cw) d.words.length (u64s (setP d.words i bs pre)) ∧ Keep (fun k => k = p.wb) w2 W ∧ W0.heap.size ≤ W.heap.size)
  (fun _ _ _ => False)
  (fun s W W' row hs hg hr => ⟨hs.1.kept hg (fun e => by have := (hr _ e.symm).1; omega), hs.2.1.kept hg (fun e => by have := (hr _ e.symm).1; omega), hs.2.2.1.kept hg (.inr (fun e => by have := (hr p.wb e.symm).1; have := hlt2.2; omega)), hs.2.2.2.1.grown hg (fun k hk => .inr (by have := (hr k hk).1; omega)), Nat.le_trans hs.2.2.2.2 hg.size⟩)
  (fun _ _ _ _ _ hs _ _ => hs)
  ⟨x1, x2, hr0, hG0.mono (fun _ h => h.elim), Nat.le_refl _⟩
  (fun x => { tmps := #[.pointer (some ⟨b, 0, none⟩), .int .i64 i, .slice (some ad) bs.length c, undef, undef, undef, .bool false, .pointer (some ⟨w2.heap.size, 0, none⟩), .pointer (some ⟨w2.heap.size + 1, 0, none⟩), chV (some ad) bs.length 8 x, undef, .pointer (some ⟨b, 0, none⟩), .bool false, .bool false, .int .i64 i, .bool false, .bool false, .bool false, .int .i64 i, .pointer (some ⟨b, 0, none⟩), .pointer (some ⟨b, 0, none⟩), .pointer (some ⟨b, 0, none⟩), .agg #[.int .u64 d.session, .slice p.As d.sz.length p.cs, .int .u32 (d.sum : Nat)], .int .i64 (chunksN d.sz : Nat), .bool false, .bool false, .bool false, .slice (some ad) bs.length c, .int .i64 bs.length, .pointer (some ⟨b, 0, none⟩), .pointer (some ⟨b, 0, none⟩), .pointer (some ⟨b, 0, none⟩), .agg #[.int .u64 d.session, .slice p.As d.sz.length p.cs, .int .u32 (d.sum : Nat)], .int .i64 i, .int .i64 (sizeN d.sz i), .bool false, .bool false, .pointer (some ⟨b, 0, none⟩), .pointer (some ⟨b, 0, none⟩), .pointer (some ⟨b, 3, none⟩), .pointer (some ⟨b, 5, none⟩), .slice p.Ak d.known.length p.ck, .int .i64 i, .bool false, .pointer (some ⟨b, 0, none⟩), .pointer (some ⟨b, 0, none⟩), .pointer (some ⟨b, 3, none⟩), .pointer (some ⟨b, 4, none⟩), .slice (some ⟨p.wb, 0, none⟩) d.words.length p.cw, .int .i64 i, .int .i64 ((i : Int) * 8), .slice (some ⟨p.wb, i * 8, none⟩) (d.words.length - i * 8) (p.cw - i * 8), .slice (some ad) bs.length c, .func (.func 220) #[] #[.pointer (some ⟨w2.heap.size + 1 + 1, 0, none⟩), .pointer (some ⟨w2.heap.size + 1 + 1 + 1, 0, none⟩)], chV (some ad) bs.length 8 x, undef, undef, undef, undef, undef, undef, undef, undef, undef, undef, undef, undef, undef, undef, undef, undef, undef, undef, undef, undef], defers := [] }) ?assign ?body ?done ?stop
 case assign =>
  intro l' x W K hK
  gi_wp2
  exact hK
 case body =>
  rintro l' pre x W ⟨hT, hK, hrow, hkp, hWs⟩ hlt
  have q1 := hT.cell
  have f1 := hT.frozen
  have q2 := hK.cell
  have f2 := hK.frozen
  have hP := ((HSS.out.grow HG.out).keep hkp (fun k hk e => HFS.out k hk e)).now.piece 8 x
  have hlw : pre.length < d.words.length - i * 8 := by omega
  have hlw2 : i * 8 + pre.length < (setP d.words i bs pre).length := by rw [setP_length]; omega
  have hrow2 : W.ownsRow 0 22 1 (.slice (some ⟨p.wb, 0, none⟩) (setP d.words i bs pre).length p.cw) (setP d.words i bs pre).length (u64s (setP d.words i bs pre)) := by rw [setP_length]; exact hrow
  have hget := wget_calls (ad.add (x * 8)) (chL bs.length 8 x) (pieceL bs 8 x) (HB.out.piece 8 x) (by rw [pieceL_length]; unfold chL; omega) W (by have h := hP; rw [pieceL_length] at h ⊢; exact h)
  rw [pieceL_length] at hget
  have HGT := LH hget
  have HT := LH hT
  have HK := LH hK
  have HR := LH hrow2
  have HKP := LH hkp
  have HLW := LH (And.intro hlw hlw2)
  have hpl : IntKind.i64.wrap ((pre.length : Int) + 1) = (pre.length : Int) + 1 := IntWalk.i64_in _ (by omega)
  have h2 : 1 ≤ 3 - 1 - 1 := by omega
  clear hT hK hrow hrow2 hkp hP hget hlw2
  gi_wp2_with (refine ⟨trivial, ?_⟩; gi_at_call 170; refine (CallsIn.inRound l' (callsIn_wide.2 HGT.out)).mono ?_; rintro e w5 ⟨rfl, hg5⟩; refine Hid.out ?_)
  have HG5 := LH hg5
  refine LH ?_
  clear q1 f1 q2 f2 hg5
  have hrow5 := own_keep HR.out HG5.out (fun _ _ h => h)
  obtain ⟨ad2, e2, q3⟩ := SliceR.int_at (k := .u64) (SliceR.of_own hrow5) (i * 8 + pre.length) HLW.out.2
  injection e2 with e2
  subst e2
  rw [addr0_add] at q3
  have f3 : w5.frozen? ⟨p.wb, i * 8 + pre.length, none⟩ = false := hrow5.frozenAt _
  have hK5 : Boxed w5 (w2.heap.size + 1) 3 (.int .i64 pre.length) := Grow.heap HG5.out HK.out
  have hT5 : Boxed w5 w2.heap.size 111 _ := Grow.heap HG5.out HT.out
  have hlp := hlt2.2
  have hst := hrow5.stored (i * 8 + pre.length) (.int .u64 (leW (pieceL bs 8 x)))
  rw [u64s_sec, ← setP_snoc] at hst
  have hK6 := Boxed.away hK5 ⟨p.wb, i * 8 + pre.length, none⟩ (by show w2.heap.size + 1 ≠ p.wb; omega) (.int .u64 (leW (pieceL bs 8 x)))
  have q2 := hK6.cell
  have f2 := hK6.frozen
  have HK6 := LH hK6
  have HT6 := LH (Boxed.away hT5 ⟨p.wb, i * 8 + pre.length, none⟩ (by show w2.heap.size ≠ p.wb; omega) (.int .u64 (leW (pieceL bs 8 x))))
  have HST := LH hst.1
  have hsW := HT.out.lt
  have hsK := HK.out.lt
  clear hst hK6 hT5 hK5 hrow5
  gi_wp2
  refine ⟨((((show KeepsOthers W w5 from ⟨HG5.out.size, fun k o hk _ => Grow.heap HG5.out hk⟩).trans (KeepsOthers.setCell _ _ _)).trans (KeepsOthers.setCell _ _ _))).from _, (((KeepB.refl _ _ _).grow (Nat.zero_le _) (fun k hk => by omega) HG5.out).setAt (p := ⟨p.wb, i * 8 + pre.length, none⟩) (Nat.zero_le _) (fun k hk => by show k ≠ p.wb; omega) _).setAt (p := ⟨w2.heap.size + 1, 0, none⟩) (Nat.zero_le _) (fun k hk => by show k ≠ w2.heap.size + 1; omega) _, ?_, ?_, ?_, ?_, ?_⟩
  ·exact HT6.out.other (by omega) _
  ·rw [List.length_append, List.length_singleton]
   exact HK6.out.set _
  ·have h9 := own_keep HST.out ((Keep.refl (fun j => j = w2.heap.size + 1) _).setCell (p := ⟨w2.heap.size + 1, 0, none⟩) (.inl rfl) (.int .i64 ((pre.length : Int) + 1))) (fun k hk e => by cases hk; have e2 : p.wb = w2.heap.size + 1 := e; omega)
   rw [setP_length] at h9
   exact h9
  ·exact ((HKP.out.grow HG5.out).setCell (p := ⟨p.wb, i * 8 + pre.length, none⟩) (.inl rfl) _).setCell (p := ⟨w2.heap.size + 1, 0, none⟩) (.inr (by show w2.heap.size ≤ w2.heap.size + 1; omega)) _
  ·have := HG5.out.size
   simp only [World.size_setCell]
   omega
 case done =>
  rintro D ys W hD rfl ⟨hT, hK, hrow, hkp, hWs⟩ hDf
  rw [setP_upto, hm8.2.2] at hrow
  have hcell := (hkp.block b hlt2.1 HP.out.dis.1).trans HP.out.cell
  obtain ⟨c0, c1, c2, c3, c4, c5, cf⟩ := cells6' hcell
  have hro := HP.out.ro.keep hkp (fun k hk e => HP.out.dis.2.2 (e ▸ hk))
  have hbs := bset_calls p.Ak p.ck d.known HP.out.ok.known (by rw [HP.out.ok.klen]; omega) i (by omega) W hro.now.2
  have HBS := LH hbs
  have HR := LH hrow
  have HKP := LH hkp
  have HCL := LH hcell
  have HRO := LH hro
  have HDF := LH hDf
  clear hT hK hrow hkp hcell hro hbs hDf
  gi_wp2_with (refine ⟨trivial, ?_⟩; gi_at_call 121; refine (callsIn_wide.2 HBS.out).mono ?_; rintro e w6 ⟨A6, c6, rfl, hg6, ho6⟩; refine Hid.out ?_)
  have HG6 := LH hg6
  have HO6 := LH ho6
  refine LH ?_
  have hcell6 := Grow.heap HG6.out HCL.out
  clear c0 c1 c2 c3 c4 c5 cf hg6 ho6
  obtain ⟨c0, c1, c2, c3, c4, c5, cf⟩ := cells6' hcell6
  have HCL6 := LH hcell6
  have hbD : b ≠ D := by have := hlt2.1; omega
  have hD2 : (w6.setCell ⟨b, 5, none⟩ (.slice A6 (setB d.known i).length c6)).heap[D]? = some (.deferred (some [])) := (Below.heap_setCell w6 ⟨b, 5, none⟩ _ D (fun e => hbD e.symm)).trans (Grow.heap HG6.out HDF.out)
  have HD2 := LH hD2
  clear hcell6 hD2
  gi_wp2
  have hkb : Keep (fun k => k = b) w6 (w6.setCell ⟨b, 5, none⟩ (.slice A6 (setB d.known i).length c6)) := (Keep.refl (fun k => k = b) w6).setCell (p := ⟨b, 5, none⟩) (.inl rfl) _
  have hcf : (w6.setCell ⟨b, 5, none⟩ (.slice A6 (setB d.known i).length c6)).heap[b]? = some (.cells #[.int .u64 d.session, .slice p.As d.sz.length p.cs, .int .u32 (d.sum : Nat), .slice p.As d.sz.length p.cs, .slice (some ⟨p.wb, 0, none⟩) d.words.length p.cw, .slice A6 (setB d.known i).length c6] 247 (0, 0)) := by
   have h0 := HCL6.out
   simp only [World.setCell, Array.getElem?_modify]
   simp [h0]
  have hkD : Keep (fun k => k = D) (w6.setCell ⟨b, 5, none⟩ (.slice A6 (setB d.known i).length c6)) ((w6.setCell ⟨b, 5, none⟩ (.slice A6 (setB d.known i).length c6)).putObj D (.deferred none)) := (Keep.refl _ _).grown (grownBy_putObj' _ D _) (fun k hk => .inl (by cases hk; rfl))
  have hd := HP.out.dis
  have hW6 := HG6.out.size
  have hKW : Keep (fun k => k = b ∨ k = p.wb) w W := (HG.out.mono (T := fun k => k = b ∨ k = p.wb) (fun _ h => h.elim)).trans HKP.out (fun k hk => .inl (.inr hk))
  have hPf : PAt b { p with Ak := A6, ck := c6 } { d with words := setN d.words i bs (bs.length / 8), known := setB d.known i } (fun k => G k ∨ (Value.slice A6 (setB d.known i).length c6).ownBlock = some k) (w6.setCell ⟨b, 5, none⟩ (.slice A6 (setB d.known i).length c6)) := by
   refine ⟨?_, ?_, ?_, ⟨hd.1, ?_, ?_⟩, ?_⟩
   ·rw [setN_length]; exact hcf
   ·rw [setN_length]
    exact own_keep (own_keep HR.out HG6.out (fun _ _ h => h)) hkb (fun k hk e => by cases hk; exact hd.1 e.symm)
   ·exact (((HRO.out.grow HG6.out).imp (fun u h => h.1)).keep hkb (fun k hk e => hd.2.1 (e ▸ hk))).and ((Foot.of_own HO6.out).keep hkb (fun k hk e => by have h1 := (HO6.out.lt k hk).1; have h2 := hlt2.1; have e2 : k = b := e; omega))
   ·rintro (h | h)
    ·exact hd.2.1 h
    ·have h1 := (HO6.out.lt b h).1; have h2 := hlt2.1; omega
   ·rintro (h | h)
    ·exact hd.2.2 h
    ·have h1 := (HO6.out.lt p.wb h).1; have h2 := hlt2.2; have := hlt2.1; omega
   ·have hok := HP.out.ok
    exact ⟨hok.s0, hok.s1, hok.sum, hok.fit, by show ((setN d.words i bs (bs.length / 8)).length : Int) = _; rw [setN_length]; exact hok.wlen, setN_in hok.win HB.out i _, hok.known.set i, by show (setB d.known i).length = _; rw [setB_length]; exact hok.klen⟩
  refine ⟨by simp, .inl ⟨_, _, rfl, run_takeDeferred HD2.out, ?_⟩⟩
  refine ⟨_, results_tmp rfl _ _ _, rfl, { p with Ak := A6, ck := c6 }, _, rfl, hPf.keep hkD (fun e => hbD e) (fun e => by have e2 : p.wb = D := e; have := hlt2.2; omega) (fun k hk e => ?_), ?_, ?_⟩
  ·have e2 : k = D := e
   rcases hk with h | h
   ·have := HP.out.ro.lt h; omega
   ·have h1 := (HO6.out.lt k h).1; have h3 := (gE HDF.out).1; omega
  ·exact (((hKW.grow HG6.out).trans hkb (fun k hk => .inl (.inl hk))).trans hkD (fun k hk => .inr (by have e2 : k = D := hk; have := HG.out.size; omega)))
  ·rintro k (h | h)
   ·exact .inl h
   ·exact .inr (by have h1 := (HO6.out.lt k h).1; have := hKW.size; omega)
 case stop =>
  rintro D c' pre W _ _ h _
  exact h.elim
end Go.Proofs.YtfkcpaahdlkcdaaGreat
namespace Go.Proofs.YtfkcpaahdlkcdaaGreat
open Go.RowKit
structure It where
 b : Nat
 k : Int
 t : Int
def ptrs (n : Nat) (a : Nat → It) : List Value := (List.range n).map fun i => .pointer (some ⟨(a i).b, 0, none⟩)
end Go.Proofs.YtfkcpaahdlkcdaaGreat
namespace Go.Proofs.YtfkcpaahdlkcdaaGreat
def It.le (x y : It) : Prop := x.t < y.t ∨ x.t = y.t ∧ x.k ≤ y.k
theorem It.le_trans {x y z : It} (h : x.le y) (k : y.le z) : x.le z := by unfold It.le at *; omega
theorem It.le_refl (x : It) : x.le x := by unfold It.le; omega
end Go.Proofs.YtfkcpaahdlkcdaaGreat
namespace Go.Proofs.YtfkcpaahdlkcdaaGreat
open Go.RowKit
theorem u_int : Tryz.prog.underlying 3 = some (.int .i64) := Tryz.underlying3
theorem keyed_int : Maps.Keyed Tryz.prog 3 := Maps.int_keyed u_int
abbrev okI (k : Int) : Prop := (Lit.int .i64 k).wf = true
theorem key_int {k : Int} (h : okI k) : keyOf Tryz.prog 3 (.int .i64 k) = some (.int .i64 k) := Maps.keyOf_int_mk u_int h
theorem isKey (k : Int) : WideAt.IsKeyLit (.int .i64 k) := trivial
theorem Keep.setObj {S : Nat → Prop} {a b : World} (h : Keep S a b) {r : Nat} (hr : S r ∨ a.heap.size ≤ r) (o : Obj) : Keep S a { b with heap := b.heap.setIfInBounds r o } :=
 ⟨h.os, h.tape, h.output, by simpa using h.size, fun i hi hS => by
  show (b.heap.setIfInBounds r o)[i]? = _
  rw [Array.getElem?_setIfInBounds_ne (by intro e; subst e; rcases hr with hr | hr; exact hS hr; omega)]
  exact h.block i hi hS⟩
def OneG (w : World) (b : Nat) (kind session index of : Int) (sum : Nat) : Prop := w.heap[b]? = some (.cells #[.int .i64 kind, .int .u64 session, .int .i64 index, .int .i64 of, .int .u32 (sum : Nat), .slice none 0 0, .slice none 0 0] 46 (0, 0))
theorem cells4 {w : World} {g T : Nat} {a0 a1 a2 a3 : Value} (h : w.heap[g]? = some (.cells #[a0, a1, a2, a3] T (0, 0))) : w.cell? ⟨g, 0, none⟩ = some a0 ∧ w.cell? ⟨g, 1, none⟩ = some a1 ∧ w.cell? ⟨g, 2, none⟩ = some a2 ∧ w.cell? ⟨g, 3, none⟩ = some a3 ∧ ∀ o, w.frozen? ⟨g, o, none⟩ = false :=
 ⟨World.news_of_block h 0 _ rfl, World.news_of_block h 1 _ rfl, World.news_of_block h 2 _ rfl, World.news_of_block h 3 _ rfl, fun o => frozen0 o h⟩
theorem stored4 {w0 w : World} {g T : Nat} {a0 a1 a2 a3 : Value} (n0 n1 n2 n3 : Value) (hg : Grow w0 w) (hge : w0.heap.size ≤ g) (h : w.heap[g]? = some (.cells #[a0, a1, a2, a3] T (0, 0))) :
    ((((w.setCell ⟨g, 0, none⟩ n0).setCell ⟨g, 1, none⟩ n1).setCell ⟨g, 2, none⟩ n2).setCell ⟨g, 3, none⟩ n3).heap[g]? = some (.cells #[n0, n1, n2, n3] T (0, 0)) ∧ Grow w0 ((((w.setCell ⟨g, 0, none⟩ n0).setCell ⟨g, 1, none⟩ n1).setCell ⟨g, 2, none⟩ n2).setCell ⟨g, 3, none⟩ n3) := by
 refine ⟨?_, ((((hg.setCell (p := ⟨g, 0, none⟩) (.inr hge) _).setCell (p := ⟨g, 1, none⟩) (.inr hge) _).setCell (p := ⟨g, 2, none⟩) (.inr hge) _).setCell (p := ⟨g, 3, none⟩) (.inr hge) _)⟩
 simp only [World.setCell, Array.getElem?_modify]
 simp [h]
theorem keep_put (B o : Nat) (w : World) (v : Value) : Keep (fun k => k = B) w (w.setCell ⟨B, o, none⟩ v) := (Keep.refl (fun k => k = B) w).setCell (p := ⟨B, o, none⟩) (.inl rfl) v
theorem keep7 (w4 : World) (T : Nat) (v0 v1 v2 v3 v4 v5 v6 : Value) : Keep (fun k => k = T) w4 (((((((w4.setCell ⟨T, 0, none⟩ v0).setCell ⟨T, 1, none⟩ v1).setCell ⟨T, 2, none⟩ v2).setCell ⟨T, 3, none⟩ v3).setCell ⟨T, 4, none⟩ v4).setCell ⟨T, 5, none⟩ v5).setCell ⟨T, 6, none⟩ v6) :=
 (((((((Keep.refl (fun k => k = T) w4).setCell (p := ⟨T, 0, none⟩) (.inl rfl) v0).setCell (p := ⟨T, 1, none⟩) (.inl rfl) v1).setCell (p := ⟨T, 2, none⟩) (.inl rfl) v2).setCell (p := ⟨T, 3, none⟩) (.inl rfl) v3).setCell (p := ⟨T, 4, none⟩) (.inl rfl) v4).setCell (p := ⟨T, 5, none⟩) (.inl rfl) v5).setCell (p := ⟨T, 6, none⟩) (.inl rfl) v6
theorem Foot.cell_mem {P : World → Prop} {W : World} {F : Nat → Prop} (h : Foot P W F) {p : Addr} (hp : ∀ W', P W' → ∃ v, W'.cell? p = some v) : F p.block := by
 by_cases hF : F p.block
 ·exact hF
 ·exfalso
  obtain ⟨v, hv⟩ := hp { W with heap := W.heap.setIfInBounds p.block (.map #[] 0) } (h.2 _ (fun k hk => by
   have : p.block ≠ k := fun e => hF (e ▸ hk)
   simp [Array.getElem?_setIfInBounds, this]))
  unfold World.cell? at hv
  rw [Array.getElem?_setIfInBounds_self] at hv
  split at hv
  ·rename_i hq
   split at hq <;> simp at hq
  ·simp at hv
end Go.Proofs.YtfkcpaahdlkcdaaGreat
namespace Go.Proofs.YtfkcpaahdlkcdaaGreat
open Go.RowKit
theorem maniB_in (session : Int) (a : List (List Int)) : ∀ x ∈ maniB session a, 0 ≤ x ∧ x ≤ 255 := fun x hx => by
 unfold maniB at hx
 rcases List.mem_append.1 hx with hx | hx
 ·rcases List.mem_append.1 hx with hx | hx
  ·exact putB_in _ _ x hx
  ·obtain ⟨y, _, hy⟩ := List.mem_flatMap.1 hx
   exact putB_in _ _ x hy
 ·exact arenaB_in a x hx
namespace NewI
variable {g : Nat} {W : World} {session : Int} {a : List (List Int)} {win back retry quota : Int} {q : Nat} {As : Option Addr} {cs : Nat} {Fq G1 : Nat → Prop} {rows : List Value} {Ac : Option Addr} {cc : Nat} {Gc : Nat → Prop} {aa tt : Value} {w w' : World}
end NewI
end Go.Proofs.YtfkcpaahdlkcdaaGreat
namespace Go.Proofs.YtfkcpaahdlkcdaaGreat
open Go.RowKit
theorem config_calls (k j : Int) (w : World) (hk : 0 ≤ k ∧ k ≤ 255) (hj : 0 ≤ j ∧ j ≤ 255) :
    Calls Tryz.prog 14 #[.int .u8 k, .int .u8 j] w fun e w' => e = .returned (.agg #[.int .i64 (1 + k % 5), .int .i64 (1 + k / 16), .int .i64 (1 + j % 40), .int .i64 1048576]) ∧ Grow w w' := by
 have hw1 : IntKind.i64.wrap (1 + k % 5) = 1 + k % 5 := IntWalk.i64_in _ (by omega)
 have hw2 : IntKind.i64.wrap (1 + k / 16) = 1 + k / 16 := IntWalk.i64_in _ (by omega)
 have hw3 : IntKind.i64.wrap (1 + j % 40) = 1 + j % 40 := IntWalk.i64_in _ (by omega)
 have hb1 : 0 ≤ k % 5 ∧ k % 5 ≤ 4 := by omega
 have hb2 : 0 ≤ k / 16 ∧ k / 16 ≤ 15 := by omega
 have hb3 : 0 ≤ j % 40 ∧ j % 40 ≤ 39 := by omega
 obtain ⟨k0, k1⟩ := hk
 obtain ⟨j0, j1⟩ := hj
 go_enter Tryz.func14, Tryz.ntmps14
 go_wp2
 refine bodyPost_ret (v := .agg #[.int .i64 (1 + k % 5), .int .i64 (1 + k / 16), .int .i64 (1 + j % 40), .int .i64 1048576]) ?_ rfl ⟨rfl, (Keep.refl NoB w).alloc _⟩
 rw [results_cell1 rfl]; go_simp
theorem OkA.one : OkA [[0]] := ⟨by decide, by decide, by decide⟩
theorem OkA.nil : OkA [] := ⟨by decide, by decide, by decide⟩
theorem ret_i {k : IntKind} {a b : Int} (h : a = b) : Ending.returned (.int k a) = .returned (.int k b) := by rw [h]
theorem sg30_lo {x : Int} (h : x < 536870912) : x = sg30 x := by unfold sg30; rw [if_pos h]
theorem sg30_hi {x : Int} (h : 536870912 ≤ x) : x - 536870912 - 536870912 = sg30 x := by unfold sg30; rw [if_neg (by omega)]; omega
theorem pow_bd {k n : Nat} (h : k ≤ n) : (1 : Int) ≤ 2 ^ k ∧ (2 : Int) ^ k ≤ 2 ^ n := by
 constructor
 ·have := Nat.one_le_two_pow (n := k); exact_mod_cast this
 ·have := Nat.pow_le_pow_right (n := 2) (by omega) h; exact_mod_cast this
theorem div_half (x : Int) (k : Nat) : x / 2 ^ k / 2 = x / 2 ^ (k + 1) := by
 rw [Int.pow_succ, Int.ediv_ediv_of_nonneg]
 exact Int.le_of_lt (Int.pow_pos (by omega))
theorem rbits_calls (x : Int) (f n : Nat) (w : World) (hx : 0 ≤ x) (hx2 : x ≤ 18446744073709551615) (hf : f ≤ 63) (hn : n ≤ 63) :
    Calls Tryz.prog 199 #[.int .u64 x, .int .i64 f, .int .i64 n] w fun e w' => e = .returned (.int .u64 (x / 2 ^ f % 2 ^ n)) ∧ w = w' := by
 go_enter Tryz.func199, Tryz.ntmps199
 go_wp2
 go_loop [0, 7] (fun a i => ∃ k : Nat, k ≤ f ∧ i = .int .i64 k ∧ a = .int .u64 (x / 2 ^ k)) (fun _ i => f - (intOf i).toNat)
 case atStart => exact ⟨0, by omega, rfl, by simp⟩
 case round =>
  obtain ⟨k, hk, rfl, rfl⟩ := hrel
  have hd := div_half x k
  have h0 : 0 ≤ x / 2 ^ k := Int.ediv_nonneg hx (Int.le_of_lt (Int.pow_pos (by omega)))
  have h1 : x / 2 ^ k ≤ 18446744073709551615 := Int.le_trans (Int.ediv_le_self _ hx) hx2
  obtain ⟨y, hy⟩ : ∃ y, x / 2 ^ k = y := ⟨_, rfl⟩
  rw [hy] at hd h0 h1 ⊢
  have HD := LH hd
  have HY := LH hy
  clear hd hy
  by_cases hlt : k < f
  ·have hlt' : (k : Int) < f := by omega
   have hw : IntKind.i64.wrap ((k : Int) + 1) = (k : Int) + 1 := IntWalk.i64_in _ (by omega)
   go_wp2
   go_round
   case rel => exact ⟨k + 1, by omega, by go_num, by rw [← HD.out]⟩
   case measure => simp [intOf]; omega
  ·obtain rfl : k = f := by omega
   have hlt' : ¬ ((k : Int) < k) := by omega
   go_wp2
   go_loop [8, 9] (fun a i => ∃ j : Nat, j ≤ n ∧ i = .int .i64 j ∧ a = .int .u64 (2 ^ j)) (fun _ i => n - (intOf i).toNat)
   case atStart => exact ⟨0, by omega, rfl, rfl⟩
   case round =>
    obtain ⟨j, hj, rfl, rfl⟩ := hrel
    have hp := pow_bd (k := j) (n := 63) (by omega)
    have hp2 := pow_bd (k := n) (n := 63) (by omega)
    have hps : (2 : Int) ^ (j + 1) = 2 * 2 ^ j := by rw [Int.pow_succ, Int.mul_comm]
    have h63 : (2 : Int) ^ 63 = 9223372036854775808 := by decide
    rw [h63] at hp hp2
    obtain ⟨z, hz⟩ : ∃ z : Int, 2 ^ j = z := ⟨_, rfl⟩
    rw [hz] at hp hps ⊢
    have HPS := LH hps
    have HZ := LH hz
    clear hps hz h63
    by_cases hlt2 : j < n
    ·have hlt2' : (j : Int) < n := by omega
     have hw : IntKind.i64.wrap ((j : Int) + 1) = (j : Int) + 1 := IntWalk.i64_in _ (by omega)
     have hpl := pow_bd (k := j + 1) (n := 63) (by omega)
     have hw2 : IntKind.u64.wrap (2 * z) = 2 * z := IntWalk.u64_in _ (by rw [HPS.out] at hpl; omega)
     clear hpl
     go_wp2
     go_round
     case rel => exact ⟨j + 1, by omega, by go_num, by rw [← HPS.out]⟩
     case measure => simp [intOf]; omega
    ·obtain rfl : j = n := by omega
     have hlt2' : ¬ ((j : Int) < j) := by omega
     have hz0 : z ≠ 0 := by omega
     have hz1 : 1 ≤ z := hp.1
     clear hp hp2
     go_wp2
     go_ret
     exact ⟨ret_i (by rw [HY.out, HZ.out]), rfl⟩
theorem rsigned_calls (x : Int) (w : World) (hx : 0 ≤ x) (hx2 : x < 1073741824) :
    Calls Tryz.prog 200 #[.int .u64 x, .int .i64 30] w fun e w' => e = .returned (.int .i64 (sg30 x)) ∧ w = w' := by
 go_enter Tryz.func200, Tryz.ntmps200
 go_wp2
 go_loop [5, 6] (fun a i => ∃ j : Nat, j ≤ 29 ∧ i = .int .i64 (j + 1 : Nat) ∧ a = .int .i64 (2 ^ j)) (fun _ i => 30 - (intOf i).toNat)
 case atStart => exact ⟨0, by omega, rfl, rfl⟩
 case round =>
  obtain ⟨j, hj, rfl, rfl⟩ := hrel
  have hp := pow_bd (k := j) (n := 29) (by omega)
  have hps : (2 : Int) ^ (j + 1) = 2 * 2 ^ j := by rw [Int.pow_succ, Int.mul_comm]
  have h29 : (2 : Int) ^ 29 = 536870912 := by decide
  rw [h29] at hp
  have h29' : j = 29 → (2 : Int) ^ j = 536870912 := fun e => by rw [e]; exact h29
  obtain ⟨z, hz⟩ : ∃ z : Int, 2 ^ j = z := ⟨_, rfl⟩
  rw [hz] at hp hps h29' ⊢
  have HPS := LH hps
  have H29 := LH h29'
  clear hps hz h29 h29'
  by_cases hlt : j < 29
  ·have hlt' : ((j + 1 : Nat) : Int) < 30 := by omega
   have hw : IntKind.i64.wrap (((j + 1 : Nat) : Int) + 1) = ((j + 1 : Nat) : Int) + 1 := IntWalk.i64_in _ (by omega)
   have hw2 : IntKind.i64.wrap (2 * z) = 2 * z := IntWalk.i64_in _ (by omega)
   obtain ⟨j1, hj1⟩ : ∃ j1, j + 1 = j1 := ⟨_, rfl⟩
   rw [hj1] at hlt' hw ⊢
   have HJ := LH hj1
   clear hj1
   go_wp2
   go_round
   case rel => exact ⟨j + 1, by omega, by rw [HJ.out]; go_num, by rw [← HPS.out]⟩
   case measure => simp [intOf]; have := HJ.out; omega
  ·obtain rfl : j = 29 := by omega
   have hz := H29.out rfl
   subst hz
   clear H29 HPS hp hj hlt
   by_cases h5 : x < 536870912
   ·have hc : x % 1073741824 = x := by omega
    have h5' : ¬ 536870912 ≤ x := by omega
    go_wp2
    go_ret
    exact ⟨ret_i (sg30_lo h5), rfl⟩
   ·have hc : x % 1073741824 = x := by omega
    have h5' : 536870912 ≤ x := by omega
    go_wp2
    go_ret
    exact ⟨ret_i (sg30_hi h5'), rfl⟩
theorem rb_calls (x : Int) (f n : Nat) (F N : Int) (w : World) (hx : 0 ≤ x) (hx2 : x ≤ 18446744073709551615) (hf : f ≤ 63) (hn : n ≤ 63) (hF : (2 : Int) ^ f = F) (hN : (2 : Int) ^ n = N) :
    Calls Tryz.prog 199 #[.int .u64 x, .int .i64 f, .int .i64 n] w fun e w' => e = .returned (.int .u64 (x / F % N)) ∧ w = w' := by
 subst hF hN
 exact rbits_calls x f n w hx hx2 hf hn
def RDecPost (x : Int) (w : World) (e : Ending) (w' : World) : Prop := e = .returned (.tuple #[.agg #[.int .i64 (ptrDec x).1.kind, .int .i64 (ptrDec x).1.off, .int .i64 (ptrDec x).1.data, .int .i64 (ptrDec x).1.ptrs, .int .i64 (ptrDec x).1.size, .int .i64 (ptrDec x).1.count, .int .i64 (ptrDec x).1.seg, .bool (ptrDec x).1.dbl], .int .i64 (ptrDec x).2]) ∧ Grow w w'
theorem rdec_nil (w : World) : Calls Tryz.prog 129 #[.int .u64 0] w (RDecPost 0 w) := by
 go_enter Tryz.func129, Tryz.ntmps129
 go_wp2
 refine bodyPost_ret (v := .tuple #[.agg #[.int .i64 0, .int .i64 0, .int .i64 0, .int .i64 0, .int .i64 0, .int .i64 0, .int .i64 0, .bool false], .int .i64 0]) ?_ rfl ⟨rfl, (Keep.refl NoB _).alloc _⟩
 rw [results_cell_tmp rfl]; go_simp
theorem rdec_struct (x : Int) (w : World) (hx : 0 ≤ x) (hx2 : x ≤ 18446744073709551615) (h0 : ¬ x = 0) (hm : x % 4 = 0) : Calls Tryz.prog 129 #[.int .u64 x] w (RDecPost x w) := by
 have h0b : (x == 0) = false := beq_eq_false_iff_ne.2 h0
 have m0 : (x % 4 == 0) = true := by rw [beq_iff_eq]; omega
 have m1 : (x % 4 == 1) = false := by rw [beq_eq_false_iff_ne]; omega
 have m2 : (x % 4 == 2) = false := by rw [beq_eq_false_iff_ne]; omega
 have HE : Hid (ptrDec x = (⟨1, sg30 (x / 4 % 1073741824), x / 4294967296 % 65536, x / 281474976710656 % 65536, 0, 0, 0, false⟩, 0)) := LH (by unfold ptrDec; rw [if_neg h0, if_pos hm])
 clear hm h0
 go_enter Tryz.func129, Tryz.ntmps129
 go_wp2_with fail
 refine (rb_calls x 2 30 4 1073741824 _ hx hx2 (by omega) (by omega) (by decide) (by decide)).mono ?_
 rintro e w1 ⟨rfl, rfl⟩
 go_wp2_with fail
 refine (rsigned_calls (x / 4 % 1073741824) _ (by omega) (by omega)).mono ?_
 rintro e w2 ⟨rfl, rfl⟩
 go_wp2_with fail
 refine (rb_calls x 32 16 4294967296 65536 _ hx hx2 (by omega) (by omega) (by decide) (by decide)).mono ?_
 rintro e w3 ⟨rfl, rfl⟩
 go_wp2_with fail
 refine (rb_calls x 48 16 281474976710656 65536 _ hx hx2 (by omega) (by omega) (by decide) (by decide)).mono ?_
 rintro e w4 ⟨rfl, rfl⟩
 go_wp2
 refine bodyPost_ret (v := .tuple #[.agg #[.int .i64 1, .int .i64 (sg30 (x / 4 % 1073741824)), .int .i64 (x / 4294967296 % 65536), .int .i64 (x / 281474976710656 % 65536), .int .i64 0, .int .i64 0, .int .i64 0, .bool false], .int .i64 0]) ?_ rfl ⟨?_, (Keep.refl NoB _).alloc _⟩
 ·rw [results_cell_tmp rfl]; go_simp
 ·rw [HE.out]
theorem rdec_list (x : Int) (w : World) (hx : 0 ≤ x) (hx2 : x ≤ 18446744073709551615) (h0 : ¬ x = 0) (hm : x % 4 = 1) : Calls Tryz.prog 129 #[.int .u64 x] w (RDecPost x w) := by
 have h0b : (x == 0) = false := beq_eq_false_iff_ne.2 h0
 have m0 : (x % 4 == 0) = false := by rw [beq_eq_false_iff_ne]; omega
 have m1 : (x % 4 == 1) = true := by rw [beq_iff_eq]; omega
 have m2 : (x % 4 == 2) = false := by rw [beq_eq_false_iff_ne]; omega
 have HE : Hid (ptrDec x = (⟨2, sg30 (x / 4 % 1073741824), 0, 0, x / 4294967296 % 8, x / 34359738368 % 536870912, 0, false⟩, 0)) := LH (by unfold ptrDec; rw [if_neg h0, if_neg (by omega), if_pos hm])
 clear hm h0
 go_enter Tryz.func129, Tryz.ntmps129
 go_wp2_with fail
 refine (rb_calls x 2 30 4 1073741824 _ hx hx2 (by omega) (by omega) (by decide) (by decide)).mono ?_
 rintro e w1 ⟨rfl, rfl⟩
 go_wp2_with fail
 refine (rsigned_calls (x / 4 % 1073741824) _ (by omega) (by omega)).mono ?_
 rintro e w2 ⟨rfl, rfl⟩
 go_wp2_with fail
 refine (rb_calls x 32 3 4294967296 8 _ hx hx2 (by omega) (by omega) (by decide) (by decide)).mono ?_
 rintro e w3 ⟨rfl, rfl⟩
 go_wp2_with fail
 refine (rb_calls x 35 29 34359738368 536870912 _ hx hx2 (by omega) (by omega) (by decide) (by decide)).mono ?_
 rintro e w4 ⟨rfl, rfl⟩
 go_wp2
 refine bodyPost_ret (v := .tuple #[.agg #[.int .i64 2, .int .i64 (sg30 (x / 4 % 1073741824)), .int .i64 0, .int .i64 0, .int .i64 (x / 4294967296 % 8), .int .i64 (x / 34359738368 % 536870912), .int .i64 0, .bool false], .int .i64 0]) ?_ rfl ⟨?_, (Keep.refl NoB _).alloc _⟩
 ·rw [results_cell_tmp rfl]; go_simp
 ·rw [HE.out]
theorem rdec_far (x : Int) (w : World) (hx : 0 ≤ x) (hx2 : x ≤ 18446744073709551615) (h0 : ¬ x = 0) (hm : x % 4 = 2) : Calls Tryz.prog 129 #[.int .u64 x] w (RDecPost x w) := by
 have h0b : (x == 0) = false := beq_eq_false_iff_ne.2 h0
 have m0 : (x % 4 == 0) = false := by rw [beq_eq_false_iff_ne]; omega
 have m1 : (x % 4 == 1) = false := by rw [beq_eq_false_iff_ne]; omega
 have m2 : (x % 4 == 2) = true := by rw [beq_iff_eq]; omega
 have HE : Hid (ptrDec x = (⟨3, x / 8 % 536870912, 0, 0, 0, 0, x / 4294967296 % 4294967296, (x / 4 % 2 == 1)⟩, 0)) := LH (by unfold ptrDec; rw [if_neg h0, if_neg (by omega), if_neg (by omega), if_pos hm])
 clear hm h0
 go_enter Tryz.func129, Tryz.ntmps129
 go_wp2_with fail
 refine (rb_calls x 2 30 4 1073741824 _ hx hx2 (by omega) (by omega) (by decide) (by decide)).mono ?_
 rintro e w1 ⟨rfl, rfl⟩
 go_wp2_with fail
 refine (rsigned_calls (x / 4 % 1073741824) _ (by omega) (by omega)).mono ?_
 rintro e w2 ⟨rfl, rfl⟩
 go_wp2_with fail
 refine (rb_calls x 3 29 8 536870912 _ hx hx2 (by omega) (by omega) (by decide) (by decide)).mono ?_
 rintro e w3 ⟨rfl, rfl⟩
 go_wp2_with fail
 refine (rb_calls x 32 32 4294967296 4294967296 _ hx hx2 (by omega) (by omega) (by decide) (by decide)).mono ?_
 rintro e w4 ⟨rfl, rfl⟩
 go_wp2_with fail
 refine (rb_calls x 2 1 4 2 _ hx hx2 (by omega) (by omega) (by decide) (by decide)).mono ?_
 rintro e w5 ⟨rfl, rfl⟩
 go_wp2
 refine bodyPost_ret (v := .tuple #[.agg #[.int .i64 3, .int .i64 (x / 8 % 536870912), .int .i64 0, .int .i64 0, .int .i64 0, .int .i64 0, .int .i64 (x / 4294967296 % 4294967296), .bool (x / 4 % 2 == 1)], .int .i64 0]) ?_ rfl ⟨?_, (Keep.refl NoB _).alloc _⟩
 ·rw [results_cell_tmp rfl]; go_simp
 ·rw [HE.out]
theorem rdec_bad (x : Int) (w : World) (hx : 0 ≤ x) (hx2 : x ≤ 18446744073709551615) (h0 : ¬ x = 0) (hm : x % 4 = 3) : Calls Tryz.prog 129 #[.int .u64 x] w (RDecPost x w) := by
 have h0b : (x == 0) = false := beq_eq_false_iff_ne.2 h0
 have m0 : (x % 4 == 0) = false := by rw [beq_eq_false_iff_ne]; omega
 have m1 : (x % 4 == 1) = false := by rw [beq_eq_false_iff_ne]; omega
 have m2 : (x % 4 == 2) = false := by rw [beq_eq_false_iff_ne]; omega
 have HE : Hid (ptrDec x = (pt0, 23)) := LH (by unfold ptrDec; rw [if_neg h0, if_neg (by omega), if_neg (by omega), if_neg (by omega)])
 clear hm h0
 go_enter Tryz.func129, Tryz.ntmps129
 go_wp2_with fail
 refine (rb_calls x 2 30 4 1073741824 _ hx hx2 (by omega) (by omega) (by decide) (by decide)).mono ?_
 rintro e w1 ⟨rfl, rfl⟩
 go_wp2_with fail
 refine (rsigned_calls (x / 4 % 1073741824) _ (by omega) (by omega)).mono ?_
 rintro e w2 ⟨rfl, rfl⟩
 go_wp2
 refine bodyPost_ret (v := .tuple #[.agg #[.int .i64 0, .int .i64 0, .int .i64 0, .int .i64 0, .int .i64 0, .int .i64 0, .int .i64 0, .bool false], .int .i64 23]) ?_ rfl ⟨?_, (Keep.refl NoB _).alloc _⟩
 ·rw [results_cell_tmp rfl]; go_simp
 ·rw [HE.out]; rfl
theorem rdec_calls (x : Int) (w : World) (hx : 0 ≤ x) (hx2 : x ≤ 18446744073709551615) : Calls Tryz.prog 129 #[.int .u64 x] w (RDecPost x w) := by
 by_cases h0 : x = 0
 ·subst h0; exact rdec_nil w
 ·rcases (by omega : x % 4 = 0 ∨ x % 4 = 1 ∨ x % 4 = 2 ∨ x % 4 = 3) with h | h | h | h
  ·exact rdec_struct x w hx hx2 h0 h
  ·exact rdec_list x w hx hx2 h0 h
  ·exact rdec_far x w hx hx2 h0 h
  ·exact rdec_bad x w hx hx2 h0 h
theorem u64_bd (x : Int) : 0 ≤ IntKind.u64.wrap x ∧ IntKind.u64.wrap x ≤ 18446744073709551615 := by
 have : IntKind.u64.wrap x = x % 18446744073709551616 := rfl
 omega
theorem rlow_calls (x : Int) (n : Nat) (w : World) (hn : n ≤ 63) :
    Calls Tryz.prog 128 #[.int .i64 x, .int .i64 n] w fun e w' => e = .returned (.int .u64 (IntKind.u64.wrap x % 2 ^ n)) ∧ w = w' := by
 obtain ⟨y, hy⟩ : ∃ y, IntKind.u64.wrap x = y := ⟨_, rfl⟩
 have hb := u64_bd x
 rw [hy] at hb ⊢
 go_enter Tryz.func128, Tryz.ntmps128
 go_wp2_with fail
 try rw [hy]
 have hr := rbits_calls y 0 n w hb.1 hb.2 (by omega) hn
 refine hr.mono ?_
 rintro e w1 ⟨rfl, rfl⟩
 clear hr hy
 go_wp2
 go_ret
 exact ⟨ret_i (by simp), rfl⟩
end Go.Proofs.YtfkcpaahdlkcdaaGreat

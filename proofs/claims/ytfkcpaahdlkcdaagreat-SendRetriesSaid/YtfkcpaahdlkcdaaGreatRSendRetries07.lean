import Derived.Test.YtfkcpaahdlkcdaaGreatRSendRetries01
import Derived.Test.YtfkcpaahdlkcdaaGreatRSendRetries06
import Derived.Test.YtfkcpaahdlkcdaaGreatProg
import Derived.LoopTactic
set_option linter.unusedSimpArgs false
set_option linter.unusedVariables false
set_option maxRecDepth 100000
set_option maxHeartbeats 16000000
namespace Go.Proofs.YtfkcpaahdlkcdaaGreat
open Go.RowKit
def chunkP (a : List (List Int)) (i : Nat) : List Int := pieceL (arenaB a) 64 i
def pageP (l : List Int) (i : Nat) : List Int := pieceL l 4 i
theorem chunkP_in (a : List (List Int)) (i : Nat) : ∀ c ∈ chunkP a i, 0 ≤ c ∧ c ≤ 255 := fun c hc => arenaB_in a c (List.mem_of_mem_drop (List.mem_of_mem_take hc))
theorem chunkP_length (a : List (List Int)) (i : Nat) : (chunkP a i).length ≤ 64 := by unfold chunkP; rw [pieceL_length]; unfold chL; omega
theorem szs_sum (a : List (List Int)) : (szs a).sum = (a.flatten.length : Nat) := by
 induction a with
 | nil => rfl
 | cons x a ih => simp only [szs, List.map_cons, List.sum_cons, List.flatten_cons, List.length_append] at ih ⊢; omega
theorem chunksN_ch (a : List (List Int)) : chunksN (szs a) = chN (arenaB a).length 64 := by
 unfold chunksN chN
 rw [szs_sum, arenaB_length]
 omega
theorem pagesN_ch (l : List Int) : pagesN l = chN l.length 4 := rfl
theorem mchunk_calls (a : List (List Int)) (ho : OkA a) (hfit : fitsB (szs a) = true) (hfl : a.flatten.length ≤ 1000000) (i : Nat) (hi : i < chunksN (szs a)) (A : Option Addr) (c : Nat) (w : World) (hR : RowsR .u64 a (.slice A a.length c) w) :
    Calls Tryz.prog 65 #[.slice A a.length c, .int .i64 i] w fun e w' => ∃ A' c', e = .returned (.slice A' (chunkP a i).length c') ∧ Grow w w' ∧ w'.ownsRow w.heap.size 5 1 (.slice A' (chunkP a i).length c') (chunkP a i).length (u8s (chunkP a i)) := by
 have H := LH hR
 have HO := LH ho
 have HF := LH hfit
 clear hR ho hfit
 go_enter Tryz.func65, Tryz.ntmps65
 go_wp2_with fail
 refine (right_calls a _ _ H.out HO.out).mono ?_
 rintro e w1 ⟨rfl, hg⟩
 rw [HF.out]
 have HG := LH hg
 clear hg
 go_wp2_with fail
 refine (arenab_calls a HO.out hfl A c _ (H.out.grow HG.out)).mono ?_
 rintro e w7 ⟨v7, rfl, hg, hob⟩
 obtain ⟨A7, c7, rfl, _⟩ := own_slice hob
 have HB7 := LH (SliceR.of_own hob)
 replace HG := LH (HG.out.grow hg)
 clear hg hob
 have hbl : (arenaB a).length ≤ 100000000 := by rw [arenaB_length]; omega
 rw [chunksN_ch] at hi
 go_wp2_with fail
 refine (pieceb_calls A7 c7 (arenaB a) 64 i (by omega) (by omega) hbl hi w7 HB7.out).mono ?_
 rintro e w8 ⟨A8, c8, rfl, hg, hob⟩
 have hsz := HG.out.size
 replace HG := LH (HG.out.grow hg)
 have HB8 := LH (own_le hob hsz)
 clear hg hob hbl
 go_wp2
 go_ret
 exact ⟨A8, c8, rfl, HG.out, HB8.out⟩
theorem mpage_calls (session : Int) (sum : Nat) (A : Option Addr) (c : Nat) (l : List Int) (w : World) (h : SliceR 1 (.slice A l.length c) l.length (ints l) w) (hf : fitsB l = true) (i : Nat) (hi : i < pagesN l) :
    Calls Tryz.prog 150 #[.agg #[.int .u64 session, .slice A l.length c, .int .u32 (sum : Nat)], .int .i64 i] w fun e w' => ∃ A' c', e = .returned (.slice A' (pageP l i).length c') ∧ Grow w w' ∧ w'.ownsRow w.heap.size 3 1 (.slice A' (pageP l i).length c') (pageP l i).length (ints (pageP l i)) := by
 have HG := LH ((Keep.refl NoB w).alloc (.cells #[.int .u64 session, .slice A l.length c, .int .u32 (sum : Nat)] 40))
 have H := LH h
 have HF := LH hf
 clear h hf
 go_enter Tryz.func150, Tryz.ntmps150
 go_wp2_with fail
 refine (mright_calls session sum A c l _ (H.out.grow HG.out) HF.out).mono ?_
 rintro e w1 ⟨rfl, hg⟩
 have HM := LH (hg.heap (heap_alloc_new w (.cells #[.int .u64 session, .slice A l.length c, .int .u32 (sum : Nat)] 40)))
 obtain ⟨m0, m1, m2, mf⟩ := cells3 HM.out
 replace HG := LH (HG.out.grow hg)
 clear hg
 obtain ⟨hl1, hl2, hl3, hl4⟩ := fits_parts HF.out
 clear hl3
 rw [pagesN_ch] at hi
 go_wp2_with fail
 refine (piecei_calls A c l 4 i (by omega) (by omega) (by omega) hi w1 (H.out.grow HG.out)).mono ?_
 rintro e w8 ⟨A8, c8, rfl, hg, hob⟩
 have hsz := HG.out.size
 replace HG := LH (HG.out.grow hg)
 have HB8 := LH (own_le hob hsz)
 clear hg hob
 go_wp2
 go_ret
 exact ⟨A8, c8, rfl, HG.out, HB8.out⟩
def makeB (n : Nat) : List Int := List.replicate ((n + 7) / 8) 0
def getB (bs : List Int) (i : Nat) : Bool := ((bs.getD (i / 8) 0).toNat).testBit (i % 8)
def setB (bs : List Int) (i : Nat) : List Int := bs.set (i / 8) (((bs.getD (i / 8) 0).toNat ||| 2 ^ (i % 8) : Nat) : Int)
def OkB (bs : List Int) : Prop := ∀ c ∈ bs, 0 ≤ c ∧ c ≤ 255
theorem makeB_length (n : Nat) : (makeB n).length = (n + 7) / 8 := by simp [makeB]
theorem setB_length (bs : List Int) (i : Nat) : (setB bs i).length = bs.length := by simp [setB]
theorem OkB.make (n : Nat) : OkB (makeB n) := by
 intro c hc
 have := List.eq_of_mem_replicate hc
 omega
theorem OkB.getD {bs : List Int} (h : OkB bs) (k : Nat) : 0 ≤ bs.getD k 0 ∧ bs.getD k 0 ≤ 255 := by
 by_cases hk : k < bs.length
 ·rw [List.getD_eq_getElem?_getD, List.getElem?_eq_getElem hk]
  exact h _ (List.getElem_mem hk)
 ·rw [List.getD_eq_getElem?_getD, List.getElem?_eq_none (by omega)]
  simp
theorem or_lt256 {a : Nat} (h : a < 256) (r : Nat) (hr : r < 8) : a ||| 2 ^ r < 256 :=
 Nat.or_lt_two_pow (n := 8) h (Nat.pow_lt_pow_right (by omega) hr)
theorem OkB.set {bs : List Int} (h : OkB bs) (i : Nat) : OkB (setB bs i) := by
 intro c hc
 rcases List.mem_or_eq_of_mem_set hc with hc | rfl
 ·exact h c hc
 ·have := h.getD (i / 8)
  have := or_lt256 (a := (bs.getD (i / 8) 0).toNat) (by omega) (i % 8) (by omega)
  omega
theorem getB_make (n i : Nat) : getB (makeB n) i = false := by
 unfold getB makeB
 rw [List.getD_eq_getElem?_getD, List.getElem?_replicate]
 split <;> simp
theorem getB_set (bs : List Int) (i j : Nat) : getB (setB bs i) j = ((decide (j = i ∧ i / 8 < bs.length)) || getB bs j) := by
 unfold getB setB
 by_cases hk : i / 8 < bs.length
 ·by_cases he : j / 8 = i / 8
  ·rw [he, List.getD_eq_getElem?_getD, List.getElem?_set_self hk]
   simp only [Option.getD_some, Int.toNat_natCast, Nat.testBit_or, Nat.testBit_two_pow]
   by_cases hr : j % 8 = i % 8
   ·have : j = i := by omega
    subst this
    simp [hk]
   ·have : ¬ (j = i) := by intro e; exact hr (by rw [e])
    have hr2 : ¬ (i % 8 = j % 8) := fun e => hr e.symm
    simp [this, hr2]
  ·have : ¬ (j = i) := by intro e; exact he (by rw [e])
   rw [List.getD_eq_getElem?_getD, List.getElem?_set_ne (fun e => he e.symm), ← List.getD_eq_getElem?_getD]
   simp [this]
 ·rw [List.set_eq_of_length_le (by omega)]
  simp [hk]
theorem bmake_calls (n : Nat) (hn : n ≤ 65536) (w : World) :
    Calls Tryz.prog 66 #[.int .i64 n] w fun e w' => ∃ A c, e = .returned (.slice A (makeB n).length c) ∧ Grow w w' ∧ w'.ownsRow w.heap.size 5 1 (.slice A (makeB n).length c) (makeB n).length (u8s (makeB n)) := by
 obtain ⟨ib, hib, hb1, hb2, hb3⟩ : ∃ i, Tryz.prog.info? 5 = some i ∧ i.zero = some (.int .u8 0) ∧ i.size = 1 ∧ i.bytes = 1 := by
  have h := info_u8
  cases hi : Tryz.prog.info? 5 with
  | none => rw [hi] at h; cases h
  | some i =>
   rw [hi] at h
   simp only [Option.map_some, Option.some.injEq, Prod.mk.injEq] at h
   exact ⟨i, rfl, h.1, h.2.1, h.2.2⟩
 rcases Nat.eq_zero_or_pos n with h00 | hn0
 ·subst h00
  have hmin : min ((0 : Nat) : Int) 65536 = 0 := by omega
  go_enter Tryz.func66, Tryz.ntmps66
  go_wp2_with fail
  refine (ceil8_calls 0 _ (by omega)).mono ?_
  rintro e w1 ⟨rfl, rfl⟩
  generalize hm : (0 + 7) / 8 = m at *
  go_wp2_with (at_make; refine wpList_make_full _ rfl _ _ _ rfl w.heap.size 5 ib (.int .u8 0) 1 u_bytes hib hb1 hb2 _ _ _ _ m rfl rfl rfl rfl (by rw [hb3]; omega) (by simp [maxLen]; omega) (Nat.le_refl _) ?_; intro w2 hown hgr)
  go_ret
  have h0 : (madeCells (Value.int .u8 0).cells (m * 1)).toList = u8s (List.replicate m 0) := by
   apply List.ext_getElem (by simp [u8s, madeCells, Value.cells])
   intro j h1 h2
   simp [u8s, madeCells, Value.cells, Nat.mod_one]
  rw [h0] at hown
  have hml : (makeB 0).length = m := by rw [makeB_length]; exact hm
  have hme : makeB 0 = List.replicate m 0 := by unfold makeB; rw [hm]
  rw [hml, hme]
  exact ⟨_, m, rfl, (Keep.refl NoB w).grown hgr (by simp), hown⟩
 ·
  have hmin : min ((n : Nat) : Int) 65536 = n := by omega
  go_enter Tryz.func66, Tryz.ntmps66
  go_wp2_with fail
  refine (ceil8_calls n _ (by omega)).mono ?_
  rintro e w1 ⟨rfl, rfl⟩
  generalize hm : (n + 7) / 8 = m at *
  go_wp2_with (at_make; refine wpList_make_full _ rfl _ _ _ rfl w.heap.size 5 ib (.int .u8 0) 1 u_bytes hib hb1 hb2 _ _ _ _ m rfl rfl rfl rfl (by rw [hb3]; omega) (by simp [maxLen]; omega) (Nat.le_refl _) ?_; intro w2 hown hgr)
  go_ret
  have h0 : (madeCells (Value.int .u8 0).cells (m * 1)).toList = u8s (List.replicate m 0) := by
   apply List.ext_getElem (by simp [u8s, madeCells, Value.cells])
   intro j h1 h2
   simp [u8s, madeCells, Value.cells, Nat.mod_one]
  rw [h0] at hown
  have hml : (makeB n).length = m := by rw [makeB_length]; exact hm
  have hme : makeB n = List.replicate m 0 := by unfold makeB; rw [hm]
  rw [hml, hme]
  exact ⟨_, m, rfl, (Keep.refl NoB w).grown hgr (by simp), hown⟩
theorem get_eq (bs : List Int) (hb : OkB bs) (i : Nat) (hk : i / 8 < bs.length) : (bits .and .u8 (bs[i / 8] / 2 ^ (i % 8)) 1 == 1) = getB bs i := by
 have hx := hb _ (List.getElem_mem hk)
 unfold getB
 rw [List.getD_eq_getElem?_getD, List.getElem?_eq_getElem hk, Option.getD_some]
 generalize bs[i / 8] = x at hx ⊢
 obtain ⟨m, rfl⟩ : ∃ m : Nat, x = m := ⟨x.toNat, by omega⟩
 have h2 : ((m : Int) / 2 ^ (i % 8)) = ((m / 2 ^ (i % 8) : Nat) : Int) := by push_cast; rfl
 have hlt : m / 2 ^ (i % 8) < 256 := Nat.lt_of_le_of_lt (Nat.div_le_self ..) (by omega)
 have h1 := u8_and_nat (m / 2 ^ (i % 8)) 1 hlt (by decide)
 rw [Nat.and_one_is_mod] at h1
 rw [h2, show (1 : Int) = ((1 : Nat) : Int) from rfl, h1, Int.toNat_natCast, Nat.testBit_eq_decide_div_mod_eq]
 by_cases h : m / 2 ^ (i % 8) % 2 = 1
 ·simp [h]
 ·have : ¬ (((m / 2 ^ (i % 8) % 2 : Nat) : Int) = ((1 : Nat) : Int)) := by omega
  rw [beq_eq_false_iff_ne.2 this, decide_eq_false h]
theorem bget_calls (A : Option Addr) (c : Nat) (bs : List Int) (hb : OkB bs) (i : Nat) (hi : i ≤ 1000000) (w : World) (h : SliceR 1 (.slice A bs.length c) bs.length (u8s bs) w) :
    Calls Tryz.prog 82 #[.slice A bs.length c, .int .i64 i] w fun e w' => e = .returned (.bool (getB bs i)) ∧ w = w' := by
 by_cases hk : i / 8 < bs.length
 ·obtain ⟨ad, rfl, q1⟩ := SliceR.int_at (k := .u8) h (i / 8) hk
  have hx := hb _ (List.getElem_mem hk)
  have hk' : ((i / 8 : Nat) : Int) < bs.length := by omega
  have HE := LH (get_eq bs hb i hk)
  clear h
  go_enter Tryz.func82, Tryz.ntmps82
  go_wp2
  go_ret
  exact ⟨by rw [← HE.out]; rfl, rfl⟩
 ·have hk' : ¬ (((i / 8 : Nat) : Int) < bs.length) := by omega
  have HE : Hid (false = getB bs i) := LH (by
   unfold getB
   rw [List.getD_eq_getElem?_getD, List.getElem?_eq_none (by omega)]
   simp)
  go_enter Tryz.func82, Tryz.ntmps82
  go_wp2
  go_ret
  exact ⟨by rw [← HE.out]; rfl, rfl⟩
end Go.Proofs.YtfkcpaahdlkcdaaGreat
namespace Go.Proofs.YtfkcpaahdlkcdaaGreat
open Go.RowKit Go.Shelf
attribute [local go_sem] Oper.semAt_some
def bitL (c : Nat) : List Nat := (List.range 8).filter (fun j => c.testBit j)
def tzN (c : Nat) : Nat := (bitL c).headD 8
theorem bitL_step : ∀ c : Fin 256, c.1 ≠ 0 → bitL c.1 = tzN c.1 :: bitL (c.1 &&& (c.1 - 1)) := by decide +kernel
theorem bitL_zero : bitL 0 = [] := by decide
theorem tz_lt : ∀ c : Fin 256, tzN c.1 ≤ 8 := by decide +kernel
theorem and_lt {c : Nat} (h : c ≠ 0) : c &&& (c - 1) < c := Nat.lt_of_le_of_lt Nat.and_le_right (by omega)
theorem tz_calls (c : Nat) (hc : c < 256) (w : World) : Calls Tryz.prog 251 #[.int .u8 c] w fun e w' => e = .returned (.int .i64 (tzN c : Nat)) ∧ w = w' := by
 have h0 : (0 : Int) ≤ c := by omega
 have h1 : (c : Int) ≤ 255 := by omega
 go_enter Tryz.func251, Tryz.ntmps251
 go_wp2
 go_ret
 refine ⟨?_, rfl⟩
 have key : ∀ x : Int, x = (tzN c : Nat) → Ending.returned (Value.int .i64 x) = Ending.returned (.int .i64 (tzN c : Nat)) := by rintro _ rfl; rfl
 refine key _ ?_
 have at_ : ∀ (A : ByteArray) (h : c < A.size), A[c] = A.data.toList.getD c 0 := fun A h => by
  rw [List.getD_eq_getElem?_getD, List.getElem?_eq_getElem (by simpa using h)]
  rfl
 rw [at_]
 clear at_ key
 obtain ⟨d, rfl⟩ : ∃ d : Fin 256, d.1 = c := ⟨⟨c, hc⟩, rfl⟩
 rename_i hx; clear hx h0 h1 hc; revert d
 decide +kernel
def eachL (bs : List Int) : List Nat := (List.range bs.length).flatMap (fun k => (bitL (bs.getD k 0).toNat).map (fun j => k * 8 + j))
def eachT (bs : List Int) (k : Nat) : List Nat := (List.range k).flatMap (fun k => (bitL (bs.getD k 0).toNat).map (fun j => k * 8 + j))
theorem eachT_succ (bs : List Int) (k : Nat) : eachT bs (k + 1) = eachT bs k ++ (bitL (bs.getD k 0).toNat).map (fun j => k * 8 + j) := by
 simp [eachT, List.range_succ]
theorem eachT_pre (bs : List Int) {k : Nat} (hk : k ≤ bs.length) : eachT bs k <+: eachL bs := by
 unfold eachT eachL
 obtain ⟨m, hm⟩ : ∃ m, bs.length = k + m := ⟨_, (Nat.add_sub_cancel' hk).symm⟩
 rw [hm, List.range_add, List.flatMap_append]
 exact List.prefix_append _ _
theorem each_calls (A : Option Addr) (n c : Nat) (w : World) :
    Calls Tryz.prog 211 #[.slice A n c] w fun e w' => e = .returned (.func (.func 250) #[] #[.pointer (some ⟨w.heap.size, 0, none⟩)]) ∧ w' = w.alloc (.cells #[.slice A n c] 23) := by
 go_enter Tryz.func211, Tryz.ntmps211
 go_wp2
 go_ret
 exact ⟨rfl, rfl⟩
theorem each1_in (F : Fence) (n : Nat) (h7 : F.fn 250) (h8 : F.fn 251) (hw8 : F = Fence.wide) (hro : F.round = none) (hn : 1 ≤ n) (l Bs : Nat) (bs : List Int) (hb : OkB bs) (hlen : bs.length ≤ 100000) (A : Option Addr) (c : Nat) (Kp : World → World → Prop) (hKt : ∀ {a b c : World}, Kp a b → Kp b c → Kp a c) (w0 : World)
    (hKs : ∀ W, Kp w0 W → SliceR 1 (.slice A bs.length c) bs.length (u8s bs) W) (J Jx : List Nat → World → Prop)
    (hY : ∀ pre x W, J pre W → pre.length < (eachL bs).length → YieldAt F (n - 1) Tryz.prog l #[.int .i64 (x : Nat)] W fun e W' =>
     (e = .returned (.bool true) ∧ J (pre ++ [x]) W' ∧ Kp W W') ∨ (e = .returned (.bool false) ∧ Jx (pre ++ [x]) W'))
    (W : World) (hW : Kp w0 W) (hBs : W.cell? ⟨Bs, 0, none⟩ = some (.slice A bs.length c)) (h0 : J [] W) :
    CallsIn F n Tryz.prog 250 #[.func (.yield l) #[] #[], .pointer (some ⟨Bs, 0, none⟩)] W fun e W' => (∃ v, e = .returned v) ∧
     ((∃ ys, ys = eachL bs ∧ J ys W') ∨ (∃ pre, pre <+: eachL bs ∧ Jx pre W')) := by
 subst hw8
 refine callsIn_of_wp Tryz.func250 rfl h7 ?_ hro
 simp only [Tryz.ntmps250, List.size_toArray, List.length_cons, List.length_nil, Nat.reduceAdd, Nat.reduceSub, Array.replicate_succ, Array.replicate_zero, List.push_toArray, List.append_toArray, List.nil_append, List.cons_append]
 gi_wp2
 gi_loopw [7] (fun q wr => ∃ k : Nat, k ≤ bs.length ∧ q = .int .i64 k ∧ Hid (J (eachT bs k) wr ∧ Kp w0 wr)) (fun q _ => bs.length - (intOf q).toNat)
 case atStart => exact ⟨0, Nat.zero_le _, rfl, h0, hW⟩
 case round =>
  obtain ⟨k, hk, rfl, HJ⟩ := hrel
  by_cases hlt : k < bs.length
  ·have hlt' : (k : Int) < bs.length := by omega
   have hw : IntKind.i64.wrap ((k : Int) + 1) = (k : Int) + 1 := IntWalk.i64_in _ (by omega)
   have hw8 : IntKind.i64.wrap ((k : Int) * 8) = (k : Int) * 8 := IntWalk.i64_in _ (by omega)
   obtain ⟨ad, rfl, q0⟩ := SliceR.int_at (k := .u8) (hKs wr HJ.out.2) k hlt
   have hx := hb _ (List.getElem_mem hlt)
   obtain ⟨c0, hc0⟩ : ∃ c0 : Nat, bs[k] = c0 := ⟨bs[k].toNat, by omega⟩
   have hbd : (bs.getD k 0).toNat = c0 := by rw [List.getD_eq_getElem?_getD, List.getElem?_eq_getElem hlt, Option.getD_some, hc0]; rfl
   have Hsu := LH (eachT_succ bs k)
   rw [hbd] at Hsu
   have Hpre := LH (eachT_pre bs (show k + 1 ≤ bs.length from hlt))
   rw [hc0] at q0 hx
   clear hc0 hbd
   gi_wp2
   obtain ⟨wo, rfl⟩ : ∃ wo : World, wo = wr := ⟨_, rfl⟩
   clear q0
   gi_loopw [4] (fun q wr => ∃ c1 : Nat, ∃ dn : List Nat, c1 < 256 ∧ q = .int .u8 c1 ∧ Hid (bitL c0 = dn ++ bitL c1) ∧ Hid (J (eachT bs k ++ dn.map (fun j => k * 8 + j)) wr ∧ Kp w0 wr)) (fun q _ => (intOf q).toNat)
   case atStart => exact ⟨c0, [], by omega, rfl, rfl, by simpa using HJ⟩
   case round =>
    clear HJ
    obtain ⟨c1, dn, hc1, rfl, hbd, HJ⟩ := hrel
    by_cases hc : c1 = 0
    ·subst hc
     have HJ3 : Hid (J (eachT bs (k + 1)) wr ∧ Kp w0 wr) := by
      rw [Hsu.out, hbd.out, bitL_zero, List.append_nil]
      exact HJ
     gi_wp2
     go_roundw
     case rel => exact ⟨k + 1, by omega, by go_num, HJ3⟩
     case measure => simp [intOf]; omega
    ·have hne : ((c1 : Int) == 0) = false := by rw [beq_eq_false_iff_ne]; omega
     have hst := bitL_step ⟨c1, hc1⟩ hc
     have htl := tz_lt ⟨c1, hc1⟩
     dsimp only at hst htl
     have hwt : IntKind.i64.wrap ((k : Int) * 8 + tzN c1) = (k : Int) * 8 + tzN c1 := IntWalk.i64_in _ (by omega)
     have hws : IntKind.u8.wrap ((c1 : Int) - 1) = (c1 : Int) - 1 := IntWalk.u8_in _ (by omega)
     have hand : bits .and .u8 (c1 : Int) ((c1 : Int) - 1) = ((c1 &&& (c1 - 1) : Nat) : Int) := by
      have := u8_and_nat c1 (c1 - 1) hc1 (by omega)
      rw [← this]
      congr 1
      omega
     have hal := and_lt hc
     have hpl : (eachT bs k ++ dn.map (fun j => k * 8 + j)).length < (eachL bs).length := by
      have h1 := Hpre.out.length_le
      rw [Hsu.out, hbd.out, hst] at h1
      simp only [List.length_append, List.length_map, List.length_cons] at h1 ⊢
      omega
     have hp2 : eachT bs k ++ dn.map (fun j => k * 8 + j) ++ [k * 8 + tzN c1] <+: eachL bs := by
      refine List.IsPrefix.trans ?_ Hpre.out
      rw [Hsu.out, hbd.out, hst]
      simp
     obtain ⟨fn, tmps, assign, body, hy, hRR⟩ := hY _ (k * 8 + tzN c1) wr HJ.out.1 hpl
     have hcast : (((k * 8 + tzN c1 : Nat)) : Int) = (k : Int) * 8 + tzN c1 := by push_cast; rfl
     rw [hcast] at hy
     have HRR := LH hRR
     have HKT := LH (show ∀ W, Kp wr W → Kp w0 W from fun W h => hKt HJ.out.2 h)
     have HST := LH hst
     have HP2 := LH hp2
     have HAND := LH hand
     clear hRR hst hp2 hpl hcast hand
     gi_wp2_with fail
     refine (callsIn_wide.2 (tz_calls c1 hc1 _)).mono ?_
     rintro e w5 ⟨rfl, rfl⟩
     gi_wp2
     refine HRR.out.mono ?_
     rintro e W3 (⟨rfl, hJ3, hk3⟩ | ⟨rfl, hJx3⟩)
     ·have HJ3 : Hid (J (eachT bs k ++ (dn ++ [tzN c1]).map (fun j => k * 8 + j)) W3 ∧ Kp w0 W3) := LH ⟨by rw [List.map_append, ← List.append_assoc]; exact hJ3, HKT.out _ hk3⟩
      clear hJ3 hk3
      gi_wp2
      go_roundw
      case rel => exact ⟨c1 &&& (c1 - 1), dn ++ [tzN c1], by omega, by rw [HAND.out], LH (by rw [hbd.out, HST.out]; simp), HJ3⟩
      case measure => rw [HAND.out]; simp [intOf]; omega
     ·have HX := LH hJx3
      clear hJx3
      gi_wp2
      refine bodyPost_ret (results_none rfl _ _ _) rfl ?_
      exact ⟨⟨_, rfl⟩, .inr ⟨_, HP2.out, HX.out⟩⟩
  ·obtain rfl : k = bs.length := by omega
   have hlt' : ¬ ((bs.length : Int) < bs.length) := by omega
   have HJ2 := LH HJ.out.1
   clear HJ
   gi_wp2
   go_end0
   exact ⟨⟨_, rfl⟩, .inl HJ2.out⟩
end Go.Proofs.YtfkcpaahdlkcdaaGreat
namespace Go.Proofs.YtfkcpaahdlkcdaaGreat
open Go.RowKit Go.Shelf
attribute [local go_sem] Oper.semAt_some
theorem each_stops (bs : List Int) (hb : OkB bs) (hlen : bs.length ≤ 100000) (A : Option Addr) (c : Nat) (w0 : World) (hR : SliceR 1 (.slice A bs.length c) bs.length (u8s bs) w0) (n : Nat) (hn : 1 ≤ n) (Bs : Nat) (w : World) (hw : Below w0.heap.size w0 w)
    (hBs : Boxed w Bs 23 (.slice A bs.length c)) :
    SeqStopsK Fence.wide n Tryz.prog 250 #[.pointer (some ⟨Bs, 0, none⟩)] (fun x : Nat => #[.int .i64 (x : Nat)]) (Below w0.heap.size) (fun ys => ys = eachL bs)
     (fun pre => pre <+: eachL bs) (eachL bs).length w := fun l J Jx W hW _ _ hY h0 =>
 each1_in Fence.wide n trivial trivial rfl rfl hn l Bs bs hb hlen A c (Below w0.heap.size) (fun h k => h.trans k) w0
  (fun W' hK => hR.grow (Keep.of_below hK)) J Jx hY W (hw.trans (hW.mono hw.size)) (Boxed.cell (t := 23) ((hW.block Bs hBs.lt).trans hBs)) h0
def goN : Nat → List Nat → Nat
 | k, [] => k
 | k, i :: r => if k < i then k else goN (k + 1) r
def firstN (bs : List Int) (n : Nat) : Nat := min (goN 0 (eachL bs)) n
theorem eachT_length (bs : List Int) (k : Nat) : (eachT bs k).length ≤ 8 * k := by
 induction k with
 | zero => simp [eachT]
 | succ k ih =>
  rw [eachT_succ, List.length_append, List.length_map]
  have : (bitL (bs.getD k 0).toNat).length ≤ 8 := by
   unfold bitL
   exact Nat.le_trans (List.length_filter_le _ _) (by simp)
  omega
theorem bfirst_calls (A : Option Addr) (c : Nat) (bs : List Int) (hb : OkB bs) (hlen : bs.length ≤ 100000) (n : Nat) (hn0 : 0 < n) (hn : n ≤ 65536) (w : World) (hR : SliceR 1 (.slice A bs.length c) bs.length (u8s bs) w) :
    Calls Tryz.prog 147 #[.slice A bs.length c, .int .i64 n] w fun e w' => e = .returned (.int .i64 (firstN bs n : Nat)) ∧ Grow w w' := by
 have hel : (eachL bs).length ≤ 800000 := by have := eachT_length bs bs.length; unfold eachT at this; unfold eachL; omega
 have hmin : min ((n : Nat) : Int) 65536 = n := by omega
 have hn0' : (0 : Int) < n := by omega
 refine (callsIn_wide (n := 3)).1 ?_
 refine callsIn_of_wp_marks Tryz.func147 rfl trivial ?_ rfl
 simp only [Tryz.ntmps147, List.size_toArray, List.length_cons, List.length_nil, Nat.reduceAdd, Nat.reduceSub, Array.replicate_succ, Array.replicate_zero, List.push_toArray, List.append_toArray, List.nil_append, List.cons_append]
 gi_wp2_with (refine ⟨trivial, ?_⟩; gi_at_call 211; refine (callsIn_wide.2 (each_calls A bs.length c _)).mono ?_; rintro e w' ⟨rfl, rfl⟩)
 have bK := Boxed.new w 3 (.int .i64 0)
 have bS := Boxed.new (w.alloc (.cells #[.int .i64 0] 3)) 23 (.slice A bs.length c)
 have c1 := bK.alloc (.cells #[.slice A bs.length c] 23)
 simp only [World.size_alloc] at bS
 have hB0 : Below w.heap.size w ((w.alloc (.cells #[.int .i64 0] 3)).alloc (.cells #[.slice A bs.length c] 23)) := ((Below.refl _ w).alloc (Nat.le_refl _) _).alloc (by simp) _
 obtain ⟨W0, hW0⟩ : ∃ W0, ((w.alloc (.cells #[.int .i64 0] 3)).alloc (.cells #[.slice A bs.length c] 23)) = W0 := ⟨_, rfl⟩
 have hsz : W0.heap.size = w.heap.size + 2 := by rw [← hW0]; simp
 rw [hW0] at c1 bS hB0 ⊢
 clear hW0 bK
 refine wpIn_rangeFunc_ownG rfl (show 1 ≤ 3 by omega) (gf := 250) (lb := #[.pointer (some ⟨w.heap.size + 1, 0, none⟩)]) rfl trivial (enters_of Tryz.func250 (by kernel_rfl) rfl)
  (each_stops bs hb hlen A c w hR _ (by omega) (w.heap.size + 1) W0 hB0 bS) belowK_t (belowK_b (by omega)) (Below.refl _ _) (fun _ => rfl)
  (fun pre W => (∀ rest, goN 0 (pre ++ rest) = goN pre.length rest) ∧ pre.length ≤ 1000000 ∧ Boxed W w.heap.size 3 (.int .i64 pre.length) ∧ Below w.heap.size w W)
  (fun c' pre W => c' = .exit 0 ∧ ∃ k : Nat, (∀ rest, goN 0 (pre ++ rest) = k) ∧ Boxed W w.heap.size 3 (.int .i64 k) ∧ Below w.heap.size w W)
  (fun s W W' row hs hg hr => ⟨hs.1, hs.2.1, hs.2.2.1.kept hg (fun e => by have := (hr _ e.symm).1; omega), ownFrom_below (β := Unit) (Nat.le_refl _) (show w.heap.size ≤ W0.heap.size by omega) () W W' row hs.2.2.2 hg hr⟩)
  (fun c' s W W' row hs hg hr => by obtain ⟨h1, k, h2, h3, h4⟩ := hs; exact ⟨h1, k, h2, h3.kept hg (fun e => by have := (hr _ e.symm).1; omega), ownFrom_below (β := Unit) (Nat.le_refl _) (show w.heap.size ≤ W0.heap.size by omega) () W W' row h4 hg hr⟩)
  ⟨fun _ => rfl, by simp, c1, hB0⟩
  (fun x => { tmps := #[.slice A bs.length c, .int .i64 n, undef, undef, .int .i64 0, .pointer (some ⟨w.heap.size, 0, none⟩), .int .i64 x, .int .i64 n, .int .i64 n, .int .i64 n, .slice A bs.length c, .func (.func 250) #[] #[.pointer (some ⟨w.heap.size + 1, 0, none⟩)], .int .i64 x, undef, undef, undef, undef, undef, undef, undef, undef], defers := [] }) ?assign ?body ?done ?stop
 case assign =>
  intro l' x W K hK
  gi_wp2
  exact hK
 case body =>
  rintro l' pre x W ⟨hgo, hpl, hK, hB⟩ hlt
  have q1 := hK.cell
  have f1 := hK.frozen
  have HK := LH hK
  have HB := LH hB
  have HGO := LH hgo
  clear hK hB hgo
  by_cases hx : pre.length < x
  ·have hx' : (pre.length : Int) < x := by omega
   gi_wp2
   refine ⟨(KeepsOthers.refl _).from _, rfl, pre.length, fun rest => ?_, HK.out, HB.out⟩
   rw [List.append_assoc, HGO.out]
   simp [goN, hx]
  ·have hx' : ¬ ((pre.length : Int) < x) := by omega
   have hw : IntKind.i64.wrap ((pre.length : Int) + 1) = (pre.length : Int) + 1 := IntWalk.i64_in _ (by omega)
   gi_wp2
   refine ⟨(KeepsOthers.setCell _ _ _).from _, (Below.refl _ _).setCell (p := ⟨w.heap.size, 0, none⟩) (Nat.le_refl _) _, fun rest => ?_, by simp; omega, by simpa using HK.out.set (.int .i64 (pre.length + 1)), HB.out.setCell (p := ⟨w.heap.size, 0, none⟩) (Nat.le_refl _) _⟩
   rw [List.append_assoc, HGO.out]
   simp [goN, hx]
 case done =>
  rintro D ys W hD rfl ⟨hgo, hpl, hK, hB⟩ hKd
  have h1 := hgo []
  rw [List.append_nil] at h1
  have q1 := hK.cell
  have HF : Hid (firstN bs n = min (eachL bs).length n) := LH (by unfold firstN; rw [h1]; rfl)
  clear hgo h1
  gi_wp2
  all_goals
   refine ⟨by simp, .inl ⟨_, _, rfl, run_takeDeferred hKd, ?_⟩⟩
   refine ⟨_, results_tmp rfl _ _ _, ?_, Keep.of_below (hB.trans (belowK_b (w := w) (Nat.le_refl _) W D _ _ (by omega) hKd rfl rfl))⟩
   rw [HF.out]
   show Ending.returned (Value.int .i64 _) = _
   congr 2
   omega
 case stop =>
  rintro D c' pre W hD hpre ⟨rfl, k, hgo, hK, hB⟩ hKd
  obtain ⟨rest, hrest⟩ := hpre
  have h1 := hgo rest
  rw [hrest] at h1
  have q1 := hK.cell
  have HF : Hid (firstN bs n = min k n) := LH (by unfold firstN; rw [h1])
  gi_wp2
  all_goals
   refine ⟨by simp, .inl ⟨_, _, rfl, run_takeDeferred hKd, ?_⟩⟩
   refine ⟨_, results_tmp rfl _ _ _, ?_, Keep.of_below (hB.trans (belowK_b (w := w) (Nat.le_refl _) W D _ _ (by omega) hKd rfl rfl))⟩
   rw [HF.out]
   show Ending.returned (Value.int .i64 _) = _
   congr 2
   omega
end Go.Proofs.YtfkcpaahdlkcdaaGreat
namespace Go.Proofs.YtfkcpaahdlkcdaaGreat
open Go.RowKit
def cmpI (x y : Int) : Int := if x < y then -1 else if y < x then 1 else 0
theorem nan_calls (x : Int) (w : World) : Calls Tryz.prog 310 #[.int .i64 x] w fun e w' => e = .returned (.bool false) ∧ w = w' := by
 go_enter Tryz.func310, Tryz.ntmps310
 go_wp2
 go_ret
 exact ⟨by simp, rfl⟩
theorem cmp_calls (x y : Int) (w : World) : Calls Tryz.prog 309 #[.int .i64 x, .int .i64 y] w fun e w' => e = .returned (.int .i64 (cmpI x y)) ∧ w = w' := by
 by_cases h1 : x < y
 ·rw [show cmpI x y = -1 from by simp [cmpI, h1]]
  go_enter Tryz.func309, Tryz.ntmps309
  go_wp2_with fail
  refine (nan_calls x w).mono ?_
  rintro e w' ⟨rfl, rfl⟩
  go_wp2_with fail
  refine (nan_calls y w).mono ?_
  rintro e w' ⟨rfl, rfl⟩
  go_wp2
  go_ret
  exact ⟨rfl, rfl⟩
 by_cases h2 : y < x
 ·rw [show cmpI x y = 1 from by simp [cmpI, h1, h2]]
  go_enter Tryz.func309, Tryz.ntmps309
  go_wp2_with fail
  refine (nan_calls x w).mono ?_
  rintro e w' ⟨rfl, rfl⟩
  go_wp2_with fail
  refine (nan_calls y w).mono ?_
  rintro e w' ⟨rfl, rfl⟩
  go_wp2
  go_ret
  exact ⟨rfl, rfl⟩
 ·rw [show cmpI x y = 0 from by simp [cmpI, h1, h2]]
  go_enter Tryz.func309, Tryz.ntmps309
  go_wp2_with fail
  refine (nan_calls x w).mono ?_
  rintro e w' ⟨rfl, rfl⟩
  go_wp2_with fail
  refine (nan_calls y w).mono ?_
  rintro e w' ⟨rfl, rfl⟩
  go_wp2
  go_ret
  exact ⟨rfl, rfl⟩
theorem or_calls (x y z : Int) (hz : (if x = 0 then y else x) = z) (g : Nat) (w : World) (h0 : w.cell? ⟨g, 0, none⟩ = some (.int .i64 x)) (h1 : w.cell? ⟨g, 1, none⟩ = some (.int .i64 y)) :
    Calls Tryz.prog 308 #[.slice (some ⟨g, 0, none⟩) 2 2] w fun e w' => e = .returned (.int .i64 z) ∧ w = w' := by
 subst hz
 by_cases hx : x = 0
 ·by_cases hy : y = 0
  ·subst hx
   subst hy
   go_enter Tryz.func308, Tryz.ntmps308
   go_wp2
   go_loopw [8] (fun v wr => wr = w ∧ ∃ k : Nat, k ≤ 2 ∧ v = .int .i64 k) (fun v _ => 2 - (intOf v).toNat)
   case atStart => exact ⟨rfl, 0, by omega, rfl⟩
   case round =>
    obtain ⟨rfl, k, hk, rfl⟩ := hrel
    match k, hk with
    | 0, _ =>
     go_wp2
     go_roundw
     case rel => exact ⟨trivial, 1, by omega, by go_num⟩
     case measure => simp [intOf]
    | 1, _ =>
     go_wp2
     go_roundw
     case rel => exact ⟨trivial, 2, by omega, by go_num⟩
     case measure => simp [intOf]
    | 2, _ =>
     go_wp2
     go_ret
     exact ⟨rfl, rfl⟩
  ·subst hx
   rw [show (if (0 : Int) = 0 then y else 0) = y from by simp]
   have hy' : (y == 0) = false := beq_eq_false_iff_ne.2 hy
   clear hy
   go_enter Tryz.func308, Tryz.ntmps308
   go_wp2
   go_loopw [8] (fun v wr => wr = w ∧ ∃ k : Nat, k ≤ 1 ∧ v = .int .i64 k) (fun v _ => 2 - (intOf v).toNat)
   case atStart => exact ⟨rfl, 0, by omega, rfl⟩
   case round =>
    obtain ⟨rfl, k, hk, rfl⟩ := hrel
    match k, hk with
    | 0, _ =>
     go_wp2
     go_roundw
     case rel => exact ⟨trivial, 1, by omega, by go_num⟩
     case measure => simp [intOf]
    | 1, _ =>
     go_wp2
     go_ret
     exact ⟨rfl, rfl⟩
 ·rw [show (if x = 0 then y else x) = x from by simp [hx]]
  have hx' : (x == 0) = false := beq_eq_false_iff_ne.2 hx
  clear hx
  go_enter Tryz.func308, Tryz.ntmps308
  go_wp2
  go_loopw [8] (fun v wr => wr = w ∧ v = .int .i64 0) (fun v _ => 2 - (intOf v).toNat)
  case atStart => exact ⟨rfl, rfl⟩
  case round =>
   obtain ⟨rfl, rfl⟩ := hrel
   go_wp2
   go_ret
   exact ⟨rfl, rfl⟩
structure It where
 b : Nat
 k : Int
 t : Int
def It.less (x y : It) : Bool := decide (x.t < y.t ∨ x.t = y.t ∧ x.k < y.k)
theorem less_cmp (x y : It) : decide ((if cmpI x.t y.t = 0 then cmpI x.k y.k else cmpI x.t y.t) < 0) = x.less y := by
 unfold It.less cmpI
 rw [decide_eq_decide]
 by_cases h1 : x.t < y.t <;> by_cases h2 : y.t < x.t <;> by_cases h3 : x.k < y.k <;> by_cases h4 : y.k < x.k <;> simp [h1, h2, h3, h4] <;> omega
theorem info_ip : (Tryz.prog.info? 227).map (fun i => (i.zero, i.size, i.bytes)) = some (some (.pointer none), 1, 8) := by kernel_rfl
theorem u_ips : Tryz.prog.underlying 210 = some (.slice 227) := by kernel_rfl
def ptrs (n : Nat) (a : Nat → It) : List Value := (List.range n).map fun i => .pointer (some ⟨(a i).b, 0, none⟩)
theorem ptrs_get {n i : Nat} {a : Nat → It} (h : i < n) : (ptrs n a)[i]? = some (.pointer (some ⟨(a i).b, 0, none⟩)) := by simp [ptrs, h]
theorem ptrs_length (n : Nat) (a : Nat → It) : (ptrs n a).length = n := by simp [ptrs]
structure Arr (q n : Nat) (a : Nat → It) (v mv : Value) (F : Nat → Prop) (w : World) : Prop where
 cell : w.heap[q]? = some (.cells #[v, mv] 212 (0, 0))
 row : w.ownsRow 0 227 1 v n (ptrs n a)
 item : ∀ i, i < n → w.heap[(a i).b]? = some (.cells #[.int .i64 (a i).k, .int .i64 (a i).t, .int .i64 i] 229 (0, 0))
 inj : ∀ i j, i < n → j < n → (a i).b = (a j).b → i = j
 few : n ≤ 1000
 fq : F q
 frow : ∀ k, v.ownBlock = some k → F k ∧ k ≠ q
 fit : ∀ i, i < n → F (a i).b ∧ (a i).b ≠ q ∧ v.ownBlock ≠ some (a i).b
 lt : ∀ k, F k → k < w.heap.size
theorem Arr.keep {q n : Nat} {a : Nat → It} {v mv : Value} {F S : Nat → Prop} {w w' : World} (h : Arr q n a v mv F w) (hk : Keep S w w') (hd : ∀ k, F k → ¬ S k) : Arr q n a v mv F w' :=
 ⟨(hk.block q (h.lt q h.fq) (hd q h.fq)).trans h.cell, own_keep h.row hk (fun k hv => hd k (h.frow k hv).1), fun i hi => (hk.block _ (h.lt _ (h.fit i hi).1) (hd _ (h.fit i hi).1)).trans (h.item i hi), h.inj, h.few, h.fq, h.frow, h.fit, fun k hF => Nat.lt_of_lt_of_le (h.lt k hF) hk.size⟩
theorem Arr.grow {q n : Nat} {a : Nat → It} {v mv : Value} {F : Nat → Prop} {w w' : World} (h : Arr q n a v mv F w) (hk : Grow w w') : Arr q n a v mv F w' := h.keep hk (fun _ _ h => h)
theorem Arr.slice {q n : Nat} {a : Nat → It} {v mv : Value} {F : Nat → Prop} {w : World} (h : Arr q n a v mv F w) : ∃ A c, v = .slice A n c := by
 obtain ⟨A, c, e, _⟩ := own_slice h.row
 exact ⟨A, c, e⟩
theorem Arr.get {q n : Nat} {a : Nat → It} {v mv : Value} {F : Nat → Prop} {w : World} (h : Arr q n a v mv F w) (i : Nat) (hi : i < n) :
    ∃ r c, v = .slice (some ⟨r, 0, none⟩) n c ∧ v.ownBlock = some r ∧ n ≤ c ∧ w.cell? ⟨r, i, none⟩ = some (.pointer (some ⟨(a i).b, 0, none⟩)) ∧
     w.cell? ⟨(a i).b, 0, none⟩ = some (.int .i64 (a i).k) ∧ w.cell? ⟨(a i).b, 1, none⟩ = some (.int .i64 (a i).t) ∧ w.cell? ⟨(a i).b, 2, none⟩ = some (.int .i64 i) := by
 have hrow := h.row
 obtain ⟨r, c, hv, hr, hc, hcs⟩ := own_cells hrow (by omega)
 have := hcs i _ (ptrs_get hi)
 have hit := h.item i hi
 exact ⟨r, c, hv, hr, hc, by simpa using this, by rw [cell_of_row w _ 0 _ _ _ hit]; rfl, by rw [cell_of_row w _ 1 _ _ _ hit]; rfl, by rw [cell_of_row w _ 2 _ _ _ hit]; rfl⟩
theorem less_calls (q n : Nat) (a : Nat → It) (v mv : Value) (F : Nat → Prop) (w : World) (h : Arr q n a v mv F w) (i j : Nat) (hi : i < n) (hj : j < n) :
    Calls Tryz.prog 306 #[v, .int .i64 i, .int .i64 j] w fun e w' => e = .returned (.bool ((a i).less (a j))) ∧ Grow w w' := by
 obtain ⟨r, c, rfl, hr, hnc, i0, i1, i2, _⟩ := h.get i hi
 obtain ⟨r2, c2, hv, _, _, j0, j1, j2, _⟩ := h.get j hj
 injection hv with hv1 hv2 hv3
 injection hv1 with hv1
 injection hv1 with hv1
 subst hv1
 subst hv3
 have i0' : w.drew.cell? ⟨r, i, none⟩ = some (.pointer (some ⟨(a i).b, 0, none⟩)) := by simpa using i0
 have i1' : w.drew.cell? ⟨(a i).b, 0, none⟩ = some (.int .i64 (a i).k) := by simpa using i1
 have i2' : w.drew.cell? ⟨(a i).b, 1, none⟩ = some (.int .i64 (a i).t) := by simpa using i2
 have j0' : w.drew.cell? ⟨r, j, none⟩ = some (.pointer (some ⟨(a j).b, 0, none⟩)) := by simpa using j0
 have j1' : w.drew.cell? ⟨(a j).b, 0, none⟩ = some (.int .i64 (a j).k) := by simpa using j1
 have j2' : w.drew.cell? ⟨(a j).b, 1, none⟩ = some (.int .i64 (a j).t) := by simpa using j2
 clear h i0 i1 i2 j0 j1 j2
 have hl := less_cmp (a i) (a j)
 generalize hz : (if cmpI (a i).t (a j).t = 0 then cmpI (a i).k (a j).k else cmpI (a i).t (a j).t) = z at hl
 have hi' : (i : Int) < n := by omega
 have hj' : (j : Int) < n := by omega
 go_enter Tryz.func306, Tryz.ntmps306
 go_wp2
 refine region_ord [0, 1, 2, 3, 4, 5, 6, 7, 8, 9, 10, 11, 12, 13, 15, 16, 17, 18, 19, 20, 21, 22, 23, 24, 25, 26, 27, 28, 14, 29, 30, 31, 32, 33] [14, 29, 30, 31, 33] [3, 6, 10, 13, 18, 21, 25, 28] [] rfl (by kernel_rfl) ?_
 iterate 3
  refine ord_pure rfl rfl rfl rfl rfl (fun _ _ _ _ h => h) ?_ ?_ ?_ ?_ ?_
  rotate_left 2
  ·intro w'; go_simp; with_reducible rfl
  ·simp only [Act.put, pB, pC, pD]; rfl
 refine ord_read rfl rfl rfl rfl rfl (fun _ _ _ _ h => h) ?_ ?_ ?_ ?_ ?_
 rotate_left 2
 ·intro w' hg; have q := hg.cell i0' (fun h => h); go_simp; with_reducible rfl
 ·simp only [Act.put, pB, pC, pD]; rfl
 iterate 2
  refine ord_pure rfl rfl rfl rfl rfl (fun _ _ _ _ h => h) ?_ ?_ ?_ ?_ ?_
  rotate_left 2
  ·intro w'; go_simp; with_reducible rfl
  ·simp only [Act.put, pB, pC, pD]; rfl
 refine ord_read rfl rfl rfl rfl rfl (fun _ _ _ _ h => h) ?_ ?_ ?_ ?_ ?_
 rotate_left 2
 ·intro w' hg; have q := hg.cell i2' (fun h => h); go_simp; with_reducible rfl
 ·simp only [Act.put, pB, pC, pD]; rfl
 iterate 3
  refine ord_pure rfl rfl rfl rfl rfl (fun _ _ _ _ h => h) ?_ ?_ ?_ ?_ ?_
  rotate_left 2
  ·intro w'; go_simp; with_reducible rfl
  ·simp only [Act.put, pB, pC, pD]; rfl
 refine ord_read rfl rfl rfl rfl rfl (fun _ _ _ _ h => h) ?_ ?_ ?_ ?_ ?_
 rotate_left 2
 ·intro w' hg; have q := hg.cell j0' (fun h => h); go_simp; with_reducible rfl
 ·simp only [Act.put, pB, pC, pD]; rfl
 iterate 2
  refine ord_pure rfl rfl rfl rfl rfl (fun _ _ _ _ h => h) ?_ ?_ ?_ ?_ ?_
  rotate_left 2
  ·intro w'; go_simp; with_reducible rfl
  ·simp only [Act.put, pB, pC, pD]; rfl
 refine ord_read rfl rfl rfl rfl rfl (fun _ _ _ _ h => h) ?_ ?_ ?_ ?_ ?_
 rotate_left 2
 ·intro w' hg; have q := hg.cell j2' (fun h => h); go_simp; with_reducible rfl
 ·simp only [Act.put, pB, pC, pD]; rfl
 iterate 3
  refine ord_pure rfl rfl rfl rfl rfl (fun _ _ _ _ h => h) ?_ ?_ ?_ ?_ ?_
  rotate_left 2
  ·intro w'; go_simp; with_reducible rfl
  ·simp only [Act.put, pB, pC, pD]; rfl
 refine ord_read rfl rfl rfl rfl rfl (fun _ _ _ _ h => h) ?_ ?_ ?_ ?_ ?_
 rotate_left 2
 ·intro w' hg; have q := hg.cell i0' (fun h => h); go_simp; with_reducible rfl
 ·simp only [Act.put, pB, pC, pD]; rfl
 iterate 2
  refine ord_pure rfl rfl rfl rfl rfl (fun _ _ _ _ h => h) ?_ ?_ ?_ ?_ ?_
  rotate_left 2
  ·intro w'; go_simp; with_reducible rfl
  ·simp only [Act.put, pB, pC, pD]; rfl
 refine ord_read rfl rfl rfl rfl rfl (fun _ _ _ _ h => h) ?_ ?_ ?_ ?_ ?_
 rotate_left 2
 ·intro w' hg; have q := hg.cell i1' (fun h => h); go_simp; with_reducible rfl
 ·simp only [Act.put, pB, pC, pD]; rfl
 iterate 3
  refine ord_pure rfl rfl rfl rfl rfl (fun _ _ _ _ h => h) ?_ ?_ ?_ ?_ ?_
  rotate_left 2
  ·intro w'; go_simp; with_reducible rfl
  ·simp only [Act.put, pB, pC, pD]; rfl
 refine ord_read rfl rfl rfl rfl rfl (fun _ _ _ _ h => h) ?_ ?_ ?_ ?_ ?_
 rotate_left 2
 ·intro w' hg; have q := hg.cell j0' (fun h => h); go_simp; with_reducible rfl
 ·simp only [Act.put, pB, pC, pD]; rfl
 iterate 2
  refine ord_pure rfl rfl rfl rfl rfl (fun _ _ _ _ h => h) ?_ ?_ ?_ ?_ ?_
  rotate_left 2
  ·intro w'; go_simp; with_reducible rfl
  ·simp only [Act.put, pB, pC, pD]; rfl
 refine ord_read rfl rfl rfl rfl rfl (fun _ _ _ _ h => h) ?_ ?_ ?_ ?_ ?_
 rotate_left 2
 ·intro w' hg; have q := hg.cell j1' (fun h => h); go_simp; with_reducible rfl
 ·simp only [Act.put, pB, pC, pD]; rfl
 refine ord_call rfl rfl rfl rfl rfl Tryz.func309 rfl rfl [.int .i64 (a i).t, .int .i64 (a j).t] rfl ?_
 refine (cmp_calls _ _ _).mono ?_
 rintro e w' ⟨rfl, rfl⟩
 refine ⟨_, rfl, fun _ => Keep.refl _ _, ?_⟩
 simp only [Act.put, pB, pC, pD]
 refine ord_call rfl rfl rfl rfl rfl Tryz.func309 rfl rfl [.int .i64 (a i).k, .int .i64 (a j).k] rfl ?_
 refine (cmp_calls _ _ _).mono ?_
 rintro e w' ⟨rfl, rfl⟩
 refine ⟨_, rfl, fun _ => Keep.refl _ _, ?_⟩
 simp only [Act.put, pB, pC, pD]
 refine ord_new rfl rfl rfl rfl ?_ ?_ ?_ ?_ ?_ ?_
 rotate_left 3
 ·go_simp; first | with_reducible rfl | (constructor <;> with_reducible rfl)
 ·simp only [Act.put, pB, pC, pD]; rfl
 refine ord_call rfl rfl rfl rfl rfl Tryz.func308 rfl rfl [.slice (some ⟨w.heap.size, 0, none⟩) 2 2] rfl ?_
 refine (or_calls (cmpI (a i).t (a j).t) (cmpI (a i).k (a j).k) z hz w.heap.size _ (World.news_of_block (heap_alloc_new w.drew (.cells #[.int .i64 (cmpI (a i).t (a j).t), .int .i64 (cmpI (a i).k (a j).k)] 3)) 0 _ rfl) (World.news_of_block (heap_alloc_new w.drew (.cells #[.int .i64 (cmpI (a i).t (a j).t), .int .i64 (cmpI (a i).k (a j).k)] 3)) 1 _ rfl)).mono ?_
 rintro e w' ⟨rfl, rfl⟩
 refine ⟨_, rfl, fun _ => Keep.refl _ _, ?_⟩
 simp only [Act.put, pB, pC, pD]
 refine ord_pure rfl rfl rfl rfl rfl (fun _ _ _ _ h => h) ?_ ?_ ?_ ?_ ?_
 rotate_left 2
 ·intro w'; go_simp; with_reducible rfl
 ·simp only [Act.put, pB, pC, pD]; rfl
 refine ord_set rfl rfl rfl rfl ?_ ?_ ?_ ?_ ?_
 rotate_left 2
 ·go_simp; with_reducible rfl
 ·simp only [Act.put, pB, pC, pD]; rfl
 refine ord_nil ?_
 go_wp2
 go_ret
 exact ⟨rfl, (Keep.refl _ _).drew.alloc _⟩
theorem len_calls2 (A : Option Addr) (n c : Nat) (w : World) : Calls Tryz.prog 305 #[.slice A n c] w fun e w' => e = .returned (.int .i64 n) ∧ w = w' := by
 go_enter Tryz.func305, Tryz.ntmps305
 go_wp2
 go_ret
 exact ⟨rfl, rfl⟩
def swp (a : Nat → It) (i j k : Nat) : It := if k = i then a j else if k = j then a i else a k
theorem ptrs_set2 {n i j : Nat} {a : Nat → It} (hi : i < n) (hj : j < n) (hij : i ≠ j) : ((ptrs n a).set i (.pointer (some ⟨(a j).b, 0, none⟩))).set j (.pointer (some ⟨(a i).b, 0, none⟩)) = ptrs n (swp a i j) := by
 apply List.ext_getElem?
 intro k
 rw [List.getElem?_set, List.getElem?_set]
 by_cases hk : k < n
 ·rw [ptrs_get (a := swp a i j) hk]
  by_cases h1 : j = k
  ·subst h1
   simp [ptrs_length, hj, swp, Ne.symm hij]
  ·by_cases h2 : i = k
   ·subst h2
    simp [ptrs_length, hi, swp, h1]
   ·simp [h1, h2, ptrs_get hk, swp, Ne.symm h1, Ne.symm h2]
 ·have e : (ptrs n (swp a i j))[k]? = none := List.getElem?_eq_none (by rw [ptrs_length]; omega)
  have e2 : (ptrs n a)[k]? = none := List.getElem?_eq_none (by rw [ptrs_length]; omega)
  rw [if_neg (by omega), if_neg (by omega), e, e2]
theorem heap_setCell3 {w : World} {g T : Nat} {x y z : Value} (u : Value) (h : w.heap[g]? = some (.cells #[x, y, z] T (0, 0))) : (w.setCell ⟨g, 2, none⟩ u).heap[g]? = some (.cells #[x, y, u] T (0, 0)) := by
 simp only [World.setCell, Array.getElem?_modify]
 simp [h]
theorem setCell_other {w : World} {g : Nat} {p : Addr} (u : Value) (h : g ≠ p.block) : (w.setCell p u).heap[g]? = w.heap[g]? := RowKit.Below.heap_setCell _ _ _ _ h
theorem Arr.swapped {q n : Nat} {a : Nat → It} {r c : Nat} {mv : Value} {F : Nat → Prop} {w : World} (h : Arr q n a (.slice (some ⟨r, 0, none⟩) n c) mv F w) {i j : Nat} (hi : i < n) (hj : j < n) (hij : i ≠ j) :
    Arr q n (swp a i j) (.slice (some ⟨r, 0, none⟩) n c) mv F ((((w.setCell ⟨r, i, none⟩ (.pointer (some ⟨(a j).b, 0, none⟩))).setCell ⟨r, j, none⟩ (.pointer (some ⟨(a i).b, 0, none⟩))).setCell ⟨(a j).b, 2, none⟩ (.int .i64 i)).setCell ⟨(a i).b, 2, none⟩ (.int .i64 j)) ∧
    Keep F w ((((w.setCell ⟨r, i, none⟩ (.pointer (some ⟨(a j).b, 0, none⟩))).setCell ⟨r, j, none⟩ (.pointer (some ⟨(a i).b, 0, none⟩))).setCell ⟨(a j).b, 2, none⟩ (.int .i64 i)).setCell ⟨(a i).b, 2, none⟩ (.int .i64 j)) := by
 have hr := h.frow r rfl
 have hfi := h.fit i hi
 have hfj := h.fit j hj
 have hri : r ≠ (a i).b := fun e => hfi.2.2 (by rw [← e]; rfl)
 have hrj : r ≠ (a j).b := fun e => hfj.2.2 (by rw [← e]; rfl)
 have hne : (a i).b ≠ (a j).b := fun e => hij (h.inj i j hi hj e)
 have o1 := (h.row.stored i (.pointer (some ⟨(a j).b, 0, none⟩))).1
 have o2 := (o1.stored j (.pointer (some ⟨(a i).b, 0, none⟩))).1
 rw [ptrs_set2 hi hj hij] at o2
 have k1 : Keep F w ((w.setCell ⟨r, i, none⟩ (.pointer (some ⟨(a j).b, 0, none⟩))).setCell ⟨r, j, none⟩ (.pointer (some ⟨(a i).b, 0, none⟩))) := ((Keep.refl F w).setCell (p := ⟨r, i, none⟩) (.inl hr.1) _).setCell (p := ⟨r, j, none⟩) (.inl hr.1) _
 have ho : ∀ g, g ≠ r → ((w.setCell ⟨r, i, none⟩ (.pointer (some ⟨(a j).b, 0, none⟩))).setCell ⟨r, j, none⟩ (.pointer (some ⟨(a i).b, 0, none⟩))).heap[g]? = w.heap[g]? := fun g hg => (setCell_other (p := ⟨r, j, none⟩) _ hg).trans (setCell_other (p := ⟨r, i, none⟩) _ hg)
 generalize (w.setCell ⟨r, i, none⟩ (.pointer (some ⟨(a j).b, 0, none⟩))).setCell ⟨r, j, none⟩ (.pointer (some ⟨(a i).b, 0, none⟩)) = w1 at *
 have k2 : Keep F w ((w1.setCell ⟨(a j).b, 2, none⟩ (.int .i64 i)).setCell ⟨(a i).b, 2, none⟩ (.int .i64 j)) := (k1.setCell (p := ⟨(a j).b, 2, none⟩) (.inl hfj.1) _).setCell (p := ⟨(a i).b, 2, none⟩) (.inl hfi.1) _
 have kk : Keep (fun k => k = (a j).b ∨ k = (a i).b) w1 ((w1.setCell ⟨(a j).b, 2, none⟩ (.int .i64 i)).setCell ⟨(a i).b, 2, none⟩ (.int .i64 j)) := ((Keep.refl _ w1).setCell (p := ⟨(a j).b, 2, none⟩) (.inl (.inl rfl)) _).setCell (p := ⟨(a i).b, 2, none⟩) (.inl (.inr rfl)) _
 have o3 := own_keep o2 kk (fun k hk => by
  have : r = k := by simpa [Value.ownBlock] using hk
  subst this
  exact fun h => h.elim hrj hri)
 have hit : ∀ k, k < n → ((w1.setCell ⟨(a j).b, 2, none⟩ (.int .i64 i)).setCell ⟨(a i).b, 2, none⟩ (.int .i64 j)).heap[(swp a i j k).b]? = some (.cells #[.int .i64 (swp a i j k).k, .int .i64 (swp a i j k).t, .int .i64 k] 229 (0, 0)) := by
  intro k hk
  by_cases h1 : k = i
  ·subst h1
   rw [show swp a k j k = a j from by simp [swp]]
   rw [setCell_other (p := ⟨(a k).b, 2, none⟩) _ hne.symm]
   exact heap_setCell3 _ ((ho _ hrj.symm).trans (h.item j hj))
  ·by_cases h2 : k = j
   ·subst h2
    rw [show swp a i k k = a i from by simp [swp, h1]]
    refine heap_setCell3 (z := .int .i64 i) _ ?_
    rw [setCell_other (p := ⟨(a k).b, 2, none⟩) _ hne]
    exact (ho _ hri.symm).trans (h.item i hi)
   ·rw [show swp a i j k = a k from by simp [swp, h1, h2]]
    have e1 : (a k).b ≠ (a i).b := fun e => h1 (h.inj k i hk hi e)
    have e2 : (a k).b ≠ (a j).b := fun e => h2 (h.inj k j hk hj e)
    rw [setCell_other (p := ⟨(a i).b, 2, none⟩) _ e1, setCell_other (p := ⟨(a j).b, 2, none⟩) _ e2]
    exact (ho _ (fun e => (h.fit k hk).2.2 (by rw [e]; rfl))).trans (h.item k hk)
 have hsw : ∀ k, k < n → ∃ m, m < n ∧ swp a i j k = a m ∧ (m = if k = i then j else if k = j then i else k) := by
  intro k hk
  unfold swp
  split
  ·exact ⟨j, hj, rfl, rfl⟩
  ·split
   ·exact ⟨i, hi, rfl, rfl⟩
   ·exact ⟨k, hk, rfl, rfl⟩
 refine ⟨⟨?_, o3, hit, ?_, h.few, h.fq, h.frow, ?_, fun k hk => Nat.lt_of_lt_of_le (h.lt k hk) k2.size⟩, k2⟩
 ·rw [setCell_other (p := ⟨(a i).b, 2, none⟩) _ (Ne.symm hfi.2.1), setCell_other (p := ⟨(a j).b, 2, none⟩) _ (Ne.symm hfj.2.1)]
  exact (ho _ (Ne.symm hr.2)).trans h.cell
 ·intro x y hx hy e
  obtain ⟨m1, hm1, e1, f1⟩ := hsw x hx
  obtain ⟨m2, hm2, e2, f2⟩ := hsw y hy
  rw [e1, e2] at e
  have := h.inj m1 m2 hm1 hm2 e
  rw [f1, f2] at this
  split at this <;> split at this <;> (try split at this) <;> (try split at this) <;> omega
 ·intro x hx
  obtain ⟨m1, hm1, e1, f1⟩ := hsw x hx
  rw [e1]
  exact h.fit m1 hm1
theorem Arr.mid {q n : Nat} {a : Nat → It} {r c : Nat} {mv : Value} {F : Nat → Prop} {w w1 : World} (h : Arr q n a (.slice (some ⟨r, 0, none⟩) n c) mv F w) {i j : Nat} (hi : i < n) (hj : j < n) (hij : i ≠ j)
    (hw : (w.setCell ⟨r, i, none⟩ (.pointer (some ⟨(a j).b, 0, none⟩))).setCell ⟨r, j, none⟩ (.pointer (some ⟨(a i).b, 0, none⟩)) = w1) :
    w1.cell? ⟨r, i, none⟩ = some (.pointer (some ⟨(a j).b, 0, none⟩)) ∧ w1.cell? ⟨r, j, none⟩ = some (.pointer (some ⟨(a i).b, 0, none⟩)) ∧ w1.cell? ⟨(a i).b, 2, none⟩ = some (.int .i64 i) ∧ w1.cell? ⟨(a j).b, 2, none⟩ = some (.int .i64 j) ∧
     w1.frozen? ⟨(a i).b, 2, none⟩ = false ∧ w1.frozen? ⟨(a j).b, 2, none⟩ = false ∧ (a i).b ≠ (a j).b := by
 have hfi := h.fit i hi
 have hfj := h.fit j hj
 have hri : r ≠ (a i).b := fun e => hfi.2.2 (by rw [← e]; rfl)
 have hrj : r ≠ (a j).b := fun e => hfj.2.2 (by rw [← e]; rfl)
 have hne : (a i).b ≠ (a j).b := fun e => hij (h.inj i j hi hj e)
 have o1 := (h.row.stored i (.pointer (some ⟨(a j).b, 0, none⟩))).1
 have o2 := (o1.stored j (.pointer (some ⟨(a i).b, 0, none⟩))).1
 rw [hw, ptrs_set2 hi hj hij] at o2
 have ho : ∀ g, g ≠ r → w1.heap[g]? = w.heap[g]? := fun g hg => by
  rw [← hw]
  exact (setCell_other (p := ⟨r, j, none⟩) _ hg).trans (setCell_other (p := ⟨r, i, none⟩) _ hg)
 have b1 := (ho _ hri.symm).trans (h.item i hi)
 have b2 := (ho _ hrj.symm).trans (h.item j hj)
 obtain ⟨r2, c2, hv2, _, _, hcs2⟩ := own_cells o2 (by omega)
 injection hv2 with hv2
 injection hv2 with hv2
 injection hv2 with hv2
 subst hv2
 have g1 := hcs2 i _ (ptrs_get hi)
 have g2 := hcs2 j _ (ptrs_get hj)
 rw [show swp a i j i = a j from by simp [swp]] at g1
 rw [show swp a i j j = a i from by simp [swp, hij.symm]] at g2
 exact ⟨by simpa using g1, by simpa using g2, by rw [cell_of_row w1 _ 2 _ _ _ b1]; rfl, by rw [cell_of_row w1 _ 2 _ _ _ b2]; rfl, frozen0 2 b1, frozen0 2 b2, hne⟩
theorem swap_calls (q n : Nat) (a : Nat → It) (v mv : Value) (F : Nat → Prop) (w : World) (h : Arr q n a v mv F w) (i j : Nat) (hi : i < n) (hj : j < n) (hij : i ≠ j) :
    Calls Tryz.prog 307 #[v, .int .i64 i, .int .i64 j] w fun e w' => e = .returned (.tuple #[]) ∧ Arr q n (swp a i j) v mv F w' ∧ Keep F w w' := by
 obtain ⟨r, c, rfl, hr, hnc, i0, _, _, i2⟩ := h.get i hi
 obtain ⟨r2, c2, hv, _, _, j0, _, _, j2⟩ := h.get j hj
 injection hv with hv1 hv2 hv3
 injection hv1 with hv1
 injection hv1 with hv1
 subst hv1
 subst hv3
 have hd := h.grow ((Keep.refl NoB w).drew)
 have i0' : w.drew.cell? ⟨r, i, none⟩ = some (.pointer (some ⟨(a i).b, 0, none⟩)) := by simpa using i0
 have j0' : w.drew.cell? ⟨r, j, none⟩ = some (.pointer (some ⟨(a j).b, 0, none⟩)) := by simpa using j0
 have y0 : w.frozen? ⟨r, i, none⟩ = false := h.row.frozenAt _
 have y1 : w.frozen? ⟨r, j, none⟩ = false := h.row.frozenAt _
 have hji : j ≠ i := hij.symm
 have z0 : w.drew.frozen? ⟨r, i, none⟩ = false := hd.row.frozenAt _
 have o1 := (hd.row.stored i (.pointer (some ⟨(a j).b, 0, none⟩))).1
 have z1 : (w.drew.setCell ⟨r, i, none⟩ (.pointer (some ⟨(a j).b, 0, none⟩))).frozen? ⟨r, j, none⟩ = false := o1.frozenAt _
 have j1' : (w.drew.setCell ⟨r, i, none⟩ (.pointer (some ⟨(a j).b, 0, none⟩))).cell? ⟨r, j, none⟩ = some (.pointer (some ⟨(a j).b, 0, none⟩)) := by
  obtain ⟨r2, c2, hv2, _, _, hcs2⟩ := own_cells o1 (by omega)
  injection hv2 with hv2
  injection hv2 with hv2
  injection hv2 with hv2
  subst hv2
  have := hcs2 j (.pointer (some ⟨(a j).b, 0, none⟩)) (by rw [List.getElem?_set_ne (by omega)]; exact ptrs_get hj)
  simpa using this
 have H := LH h
 have Hd := LH hd
 have hi' : (i : Int) < n := by omega
 have hj' : (j : Int) < n := by omega
 clear h hd o1 z0 z1 j1'
 go_enter Tryz.func307, Tryz.ntmps307
 go_wp2
 refine region_ord [0, 1, 2, 3, 4, 5, 6, 7, 8, 9, 10, 11, 12, 13, 14, 15] [13, 15] [7, 11] [13, 15] rfl (by kernel_rfl) ?_
 iterate 7
  refine ord_pure rfl rfl rfl rfl rfl (fun _ _ _ _ h => h) ?_ ?_ ?_ ?_ ?_
  rotate_left 2
  ·intro w'; go_simp; with_reducible rfl
  ·simp only [Act.put, pB, pC, pD]; rfl
 refine ord_read rfl rfl rfl rfl rfl (fun _ _ _ _ h => h) ?_ ?_ ?_ ?_ ?_
 rotate_left 2
 ·intro w' hg; have q := hg.cell j0' (fun h => h); go_simp; with_reducible rfl
 ·simp only [Act.put, pB, pC, pD]; rfl
 iterate 3
  refine ord_pure rfl rfl rfl rfl rfl (fun _ _ _ _ h => h) ?_ ?_ ?_ ?_ ?_
  rotate_left 2
  ·intro w'; go_simp; with_reducible rfl
  ·simp only [Act.put, pB, pC, pD]; rfl
 refine ord_read rfl rfl rfl rfl rfl (fun _ _ _ _ h => h) ?_ ?_ ?_ ?_ ?_
 rotate_left 2
 ·intro w' hg; have q := hg.cell i0' (fun h => h); go_simp; with_reducible rfl
 ·simp only [Act.put, pB, pC, pD]; rfl
 refine ord_pure rfl rfl rfl rfl rfl (fun _ _ _ _ h => h) ?_ ?_ ?_ ?_ ?_
 rotate_left 2
 ·intro w'; go_simp; with_reducible rfl
 ·simp only [Act.put, pB, pC, pD]; rfl
 refine ord_put rfl rfl rfl rfl ?_ ?_ (fun h => absurd (by simp) h) ?_
 rotate_left
 ·go_simp; with_reducible rfl
 refine ord_pure rfl rfl rfl rfl rfl (fun _ _ _ _ h => h) ?_ ?_ ?_ ?_ ?_
 rotate_left 2
 ·intro w'; go_simp; with_reducible rfl
 ·simp only [Act.put, pB, pC, pD]; rfl
 refine ord_put rfl rfl rfl rfl ?_ ?_ (fun h => absurd (by simp) h) ?_
 rotate_left
 ·go_simp; with_reducible rfl
 refine ord_nil ?_
 have hsw := LH (H.out.swapped hi hj hij)
 obtain ⟨m1, m2, m3, m4, m5, m6, m7⟩ := H.out.mid hi hj hij rfl
 generalize (w.setCell ⟨r, i, none⟩ (.pointer (some ⟨(a j).b, 0, none⟩))).setCell ⟨r, j, none⟩ (.pointer (some ⟨(a i).b, 0, none⟩)) = w1 at *
 clear i0 j0 i2 j2 i0' j0' y0 y1 Hd H
 have m7' := m7.symm
 have m1' : w1.drew.drew.cell? ⟨r, i, none⟩ = some (.pointer (some ⟨(a j).b, 0, none⟩)) := by simpa using m1
 have m2' : w1.drew.drew.cell? ⟨r, j, none⟩ = some (.pointer (some ⟨(a i).b, 0, none⟩)) := by simpa using m2
 go_wp2
 refine region_ord [0, 1, 2, 3, 4, 5, 6, 7, 8, 9, 10, 11, 12, 13, 14, 15] [12, 15] [3, 7] [12, 15] rfl (by kernel_rfl) ?_
 iterate 3
  refine ord_pure rfl rfl rfl rfl rfl (fun _ _ _ _ h => h) ?_ ?_ ?_ ?_ ?_
  rotate_left 2
  ·intro w'; go_simp; with_reducible rfl
  ·simp only [Act.put, pB, pC, pD]; rfl
 refine ord_read rfl rfl rfl rfl rfl (fun _ _ _ _ h => h) ?_ ?_ ?_ ?_ ?_
 rotate_left 2
 ·intro w' hg; have q := hg.cell m1' (fun h => h); go_simp; with_reducible rfl
 ·simp only [Act.put, pB, pC, pD]; rfl
 iterate 3
  refine ord_pure rfl rfl rfl rfl rfl (fun _ _ _ _ h => h) ?_ ?_ ?_ ?_ ?_
  rotate_left 2
  ·intro w'; go_simp; with_reducible rfl
  ·simp only [Act.put, pB, pC, pD]; rfl
 refine ord_read rfl rfl rfl rfl rfl (fun _ _ _ _ h => h) ?_ ?_ ?_ ?_ ?_
 rotate_left 2
 ·intro w' hg; have q := hg.cell m2' (fun h => h); go_simp; with_reducible rfl
 ·simp only [Act.put, pB, pC, pD]; rfl
 iterate 4
  refine ord_pure rfl rfl rfl rfl rfl (fun _ _ _ _ h => h) ?_ ?_ ?_ ?_ ?_
  rotate_left 2
  ·intro w'; go_simp; with_reducible rfl
  ·simp only [Act.put, pB, pC, pD]; rfl
 refine ord_put rfl rfl rfl rfl ?_ ?_ (fun h => absurd (by simp) h) ?_
 rotate_left
 ·go_simp; with_reducible rfl
 iterate 2
  refine ord_pure rfl rfl rfl rfl rfl (fun _ _ _ _ h => h) ?_ ?_ ?_ ?_ ?_
  rotate_left 2
  ·intro w'; go_simp; with_reducible rfl
  ·simp only [Act.put, pB, pC, pD]; rfl
 refine ord_put rfl rfl rfl rfl ?_ ?_ (fun h => absurd (by simp) h) ?_
 rotate_left
 ·go_simp; with_reducible rfl
 refine ord_nil ?_
 go_wp2
 go_end0
 exact ⟨rfl, (hsw.out.1.grow ((Keep.refl NoB _).drew)).grow ((Keep.refl NoB _).drew), hsw.out.2.drew.drew⟩
theorem load_items (q : Nat) (A : Option Addr) (n c : Nat) (w : World) (h : w.cell? ⟨q, 0, none⟩ = some (.slice A n c)) : (loadVar 210 ⟨q, 0, none⟩).run Tryz.prog w = .ok (.slice A n c) w := by
 go_simp
theorem meth_len (q : Nat) (A : Option Addr) (n c : Nat) (w : World) (h : w.cell? ⟨q, 0, none⟩ = some (.slice A n c)) : (method 494 231 (.pointer (some ⟨q, 0, none⟩)) "Len").run Tryz.prog w = .ok (305, .slice A n c) w := by
 have e : (method 494 231 (.pointer (some ⟨q, 0, none⟩)) "Len").run Tryz.prog w = (do let x ← loadVar 210 ⟨q, 0, none⟩; pure (305, x)).run Tryz.prog w := by kernel_rfl
 rw [e]
 simp [Sem.run_bind, load_items q A n c w h]
theorem meth_less (q : Nat) (A : Option Addr) (n c : Nat) (w : World) (h : w.cell? ⟨q, 0, none⟩ = some (.slice A n c)) : (method 494 231 (.pointer (some ⟨q, 0, none⟩)) "Less").run Tryz.prog w = .ok (306, .slice A n c) w := by
 have e : (method 494 231 (.pointer (some ⟨q, 0, none⟩)) "Less").run Tryz.prog w = (do let x ← loadVar 210 ⟨q, 0, none⟩; pure (306, x)).run Tryz.prog w := by kernel_rfl
 rw [e]
 simp [Sem.run_bind, load_items q A n c w h]
theorem meth_swap (q : Nat) (A : Option Addr) (n c : Nat) (w : World) (h : w.cell? ⟨q, 0, none⟩ = some (.slice A n c)) : (method 494 231 (.pointer (some ⟨q, 0, none⟩)) "Swap").run Tryz.prog w = .ok (307, .slice A n c) w := by
 have e : (method 494 231 (.pointer (some ⟨q, 0, none⟩)) "Swap").run Tryz.prog w = (do let x ← loadVar 210 ⟨q, 0, none⟩; pure (307, x)).run Tryz.prog w := by kernel_rfl
 rw [e]
 simp [Sem.run_bind, load_items q A n c w h]
theorem meth_pop (q : Nat) (w : World) : (method 494 231 (.pointer (some ⟨q, 0, none⟩)) "Pop").run Tryz.prog w = .ok (311, .pointer (some ⟨q, 0, none⟩)) w := by kernel_rfl
theorem meth_push (q : Nat) (w : World) : (method 494 231 (.pointer (some ⟨q, 0, none⟩)) "Push").run Tryz.prog w = .ok (312, .pointer (some ⟨q, 0, none⟩)) w := by kernel_rfl
theorem assert_item (v : Value) (w : World) : (Instr.typeAssert (.iface 227 v) 20 227 false).run Tryz.prog w = .ok v w := by kernel_rfl
theorem Arr.popped {q m : Nat} {a : Nat → It} {r c : Nat} {mv : Value} {F : Nat → Prop} {w : World} (h : Arr q (m + 1) a (.slice (some ⟨r, 0, none⟩) (m + 1) c) mv F w) :
    Arr q m a (.slice (some ⟨r, 0, none⟩) m c) mv F (w.setCell ⟨q, 0, none⟩ (.slice (some ⟨r, 0, none⟩) m c)) ∧ Keep F w (w.setCell ⟨q, 0, none⟩ (.slice (some ⟨r, 0, none⟩) m c)) := by
 have hk : Keep (fun k => k = q) w (w.setCell ⟨q, 0, none⟩ (.slice (some ⟨r, 0, none⟩) m c)) := (Keep.refl (fun k => k = q) w).setCell (p := ⟨q, 0, none⟩) (.inl rfl) _
 have hrow : w.ownsRow 0 227 1 (.slice (some ⟨r, 0, none⟩) m c) m (ptrs m a) := by
  obtain ⟨h1, h2⟩ := h.row
  refine ⟨by simp [ptrs_length], ?_⟩
  rcases h2 with ⟨h2, _⟩ | ⟨g, cap, cur, hv, hb, hg, hn, hm, hs, ht⟩
  ·cases h2
  ·injection hv with hv1 hv2 hv3
   subst hv3
   refine .inr ⟨g, c, cur, by rw [hv1], hb, hg, by omega, hm, hs, ?_⟩
   have : ptrs m a = (ptrs (m + 1) a).take m := by simp [ptrs, List.range_succ, List.take_append_of_le_length]
   rw [this, ← ht, List.take_take]
   congr 1
   omega
 refine ⟨⟨?_, own_keep hrow hk (fun k hk2 hq => (h.frow k hk2).2 hq), fun i hi => (hk.block _ (h.lt _ (h.fit i (by omega)).1) (h.fit i (by omega)).2.1).trans (h.item i (by omega)), fun i j hi hj => h.inj i j (by omega) (by omega), by have := h.few; omega, h.fq, h.frow, fun i hi => h.fit i (by omega), fun k hF => Nat.lt_of_lt_of_le (h.lt k hF) hk.size⟩, hk.mono (fun k hq => hq ▸ h.fq)⟩
 simp only [World.setCell, Array.getElem?_modify]
 simp [h.cell]
theorem pop_calls (q m : Nat) (a : Nat → It) (v mv : Value) (F : Nat → Prop) (w : World) (h : Arr q (m + 1) a v mv F w) :
    Calls Tryz.prog 311 #[.pointer (some ⟨q, 0, none⟩)] w fun e w' => ∃ x v', e = .returned x ∧ Arr q m a v' mv F w' ∧ Keep F w w' := by
 obtain ⟨r, c, rfl, hr, hnc, i0, _⟩ := h.get m (by omega)
 have hc : w.cell? ⟨q, 0, none⟩ = some (.slice (some ⟨r, 0, none⟩) (m + 1) c) := by rw [cell_of_row w q 0 _ _ _ h.cell]; rfl
 have hz : w.frozen? ⟨q, 0, none⟩ = false := frozen0 0 h.cell
 have hfew := h.few
 have hw : IntKind.i64.wrap (((m + 1 : Nat) : Int) - 1) = (m : Int) := by rw [show (((m + 1 : Nat) : Int) - 1) = (m : Int) from by omega]; exact IntWalk.i64_in _ (by omega)
 have H := LH h
 clear h
 go_enter Tryz.func311, Tryz.ntmps311
 go_wp2
 go_ret
 exact ⟨_, _, rfl, H.out.popped.1, H.out.popped.2⟩
theorem ptrs_snoc (n : Nat) (a : Nat → It) (x : It) : ptrs (n + 1) (fun i => if i = n then x else a i) = ptrs n a ++ [.pointer (some ⟨x.b, 0, none⟩)] := by
 simp only [ptrs, List.range_succ, List.map_append, List.map_cons, List.map_nil, if_true]
 congr 1
 apply List.map_congr_left
 intro i hi
 have : i < n := by simpa using hi
 rw [if_neg (by omega)]
theorem setCell_cells2 {w : World} {g T : Nat} {x y : Value} (u : Value) (h : w.heap[g]? = some (.cells #[x, y] T (0, 0))) : (w.setCell ⟨g, 0, none⟩ u).heap[g]? = some (.cells #[u, y] T (0, 0)) := by
 simp only [World.setCell, Array.getElem?_modify]
 simp [h]
theorem Arr.pushed {q n : Nat} {a : Nat → It} {v v2 mv : Value} {F : Nat → Prop} {w w2 : World} {o : Obj} {p : Prop} (h : Arr q n a v mv F w) {x : It} {z : Int} (hx : w.heap[x.b]? = some (.cells #[.int .i64 x.k, .int .i64 x.t, .int .i64 z] 229 (0, 0))) (hF : ¬ F x.b) (hn : n < 1000)
    (hap : Apped 0 227 1 v v2 (n + 1) (ptrs n a ++ [.pointer (some ⟨x.b, 0, none⟩)]) ((w.setCell ⟨x.b, 2, none⟩ (.int .i64 n)).alloc o) w2 p) :
    ∃ F', Arr q (n + 1) (fun i => if i = n then x else a i) v2 mv F' (w2.setCell ⟨q, 0, none⟩ v2) ∧ Keep (fun k => F k ∨ k = x.b) w (w2.setCell ⟨q, 0, none⟩ v2) ∧ ∀ k, F' k → F k ∨ k = x.b ∨ w.heap.size ≤ k := by
 have hq := h.lt q h.fq
 have hxl : x.b < w.heap.size := (gE hx).1
 have hqx : q ≠ x.b := fun e => hF (e ▸ h.fq)
 have hs1 : (w.setCell ⟨x.b, 2, none⟩ (.int .i64 n)).heap.size = w.heap.size := by simp [World.setCell]
 have k0 : Keep (fun k => k = x.b) w ((w.setCell ⟨x.b, 2, none⟩ (.int .i64 n)).alloc o) := ((Keep.refl (fun k => k = x.b) w).setCell (p := ⟨x.b, 2, none⟩) (.inl rfl) _).alloc o
 have k1 : Keep (fun k => v.ownBlock = some k) ((w.setCell ⟨x.b, 2, none⟩ (.int .i64 n)).alloc o) w2 := (Keep.refl _ _).grown hap.grew (fun k hk => .inl hk)
 have k2 : Keep (fun k => k = q) w2 (w2.setCell ⟨q, 0, none⟩ v2) := (Keep.refl (fun k => k = q) w2).setCell (p := ⟨q, 0, none⟩) (.inl rfl) v2
 have hvx : v.ownBlock ≠ some x.b := fun e => hF (h.frow _ e).1
 have hvq : v.ownBlock ≠ some q := fun e => (h.frow _ e).2 rfl
 have k02 : Keep (fun k => k = x.b ∨ v.ownBlock = some k) w w2 := (k0.mono (fun _ h => .inl h)).trans k1 (fun k hk => .inl (.inr hk))
 have kf : Keep (fun k => k = x.b ∨ v.ownBlock = some k ∨ k = q) w (w2.setCell ⟨q, 0, none⟩ v2) := (k02.mono (fun k hk => hk.elim .inl (fun h => .inr (.inl h)))).trans k2 (fun k hk => .inl (.inr (.inr hk)))
 have hv2 : ∀ k, v2.ownBlock = some k → (v.ownBlock = some k ∨ w.heap.size ≤ k) := fun k hk => by
  rcases of_append hap k hk with h | h
  ·exact .inl h
  ·refine .inr ?_
   rw [h]
   simp [hs1]
 have hqc : w2.heap[q]? = some (.cells #[v, mv] 212 (0, 0)) := (k02.block q hq (fun h => h.elim hqx hvq)).trans h.cell
 have hxc : w2.heap[x.b]? = some (.cells #[.int .i64 x.k, .int .i64 x.t, .int .i64 n] 229 (0, 0)) := by
  refine (k1.block x.b (by simp [hs1]; omega) hvx).trans ?_
  rw [Below.heap_alloc _ _ _ (by rw [hs1]; exact hxl)]
  exact heap_setCell3 _ hx
 refine ⟨fun k => (F k ∨ k = x.b ∨ w.heap.size ≤ k) ∧ k < (w2.setCell ⟨q, 0, none⟩ v2).heap.size, ⟨setCell_cells2 _ hqc, ?_, ?_, ?_, by omega, ⟨.inl h.fq, Nat.lt_of_lt_of_le hq kf.size⟩, ?_, ?_, fun k hk => hk.2⟩, kf.mono (fun k hk => ?_), fun k hk => hk.1⟩
 ·rw [ptrs_snoc]
  exact own_keep hap.own k2 (fun k hk hq2 => by
   subst hq2
   rcases hv2 _ hk with h1 | h1
   ·exact hvq h1
   ·omega)
 ·intro i hi
  by_cases hin : i = n
  ·subst hin
   simp only [if_true]
   exact (setCell_other (p := ⟨q, 0, none⟩) _ (Ne.symm hqx)).trans hxc
  ·simp only [if_neg hin]
   have hfi := h.fit i (by omega)
   have := kf.block (a i).b (h.lt _ hfi.1) (fun e => by
    rcases e with e | e | e
    ·exact hF (e ▸ hfi.1)
    ·exact hfi.2.2 e
    ·exact hfi.2.1 e)
   exact this.trans (h.item i (by omega))
 ·intro i j hi hj e
  by_cases hin : i = n <;> by_cases hjn : j = n
  ·omega
  ·simp only [hin, if_true, if_neg hjn] at e
   exact absurd (e ▸ (h.fit j (by omega)).1) hF
  ·simp only [hjn, if_true, if_neg hin] at e
   exact absurd (e ▸ (h.fit i (by omega)).1) hF
  ·simp only [if_neg hin, if_neg hjn] at e
   exact h.inj i j (by omega) (by omega) e
 ·intro k hk
  have hlt := Nat.lt_of_lt_of_le (hap.own.lt k hk).2 k2.size
  rcases hv2 k hk with h1 | h1
  ·exact ⟨⟨.inl (h.frow k h1).1, hlt⟩, (h.frow k h1).2⟩
  ·exact ⟨⟨.inr (.inr h1), hlt⟩, by omega⟩
 ·intro i hi
  by_cases hin : i = n
  ·simp only [hin, if_true]
   refine ⟨⟨.inr (.inl (by first | rfl | trivial)), Nat.lt_of_lt_of_le hxl kf.size⟩, Ne.symm hqx, fun e => ?_⟩
   rcases hv2 _ e with h1 | h1
   ·exact hvx h1
   ·omega
  ·simp only [if_neg hin]
   have hfi := h.fit i (by omega)
   have := h.lt _ hfi.1
   refine ⟨⟨.inl hfi.1, Nat.lt_of_lt_of_le this kf.size⟩, hfi.2.1, fun e => ?_⟩
   rcases hv2 _ e with h1 | h1
   ·exact hfi.2.2 h1
   ·omega
 ·rcases hk with e | e | e
  ·exact .inr e
  ·exact .inl (h.frow k e).1
  ·exact .inl (e ▸ h.fq)
theorem hpush_calls (q n : Nat) (a : Nat → It) (v mv : Value) (F : Nat → Prop) (w : World) (h : Arr q n a v mv F w) (x : It) (z : Int) (hx : w.heap[x.b]? = some (.cells #[.int .i64 x.k, .int .i64 x.t, .int .i64 z] 229 (0, 0))) (hF : ¬ F x.b) (hn : n < 1000) :
    Calls Tryz.prog 312 #[.pointer (some ⟨q, 0, none⟩), .iface 227 (.pointer (some ⟨x.b, 0, none⟩))] w fun e w' => e = .returned (.tuple #[]) ∧ ∃ v' F', Arr q (n + 1) (fun i => if i = n then x else a i) v' mv F' w' ∧ Keep (fun k => F k ∨ k = x.b) w w' ∧ ∀ k, F' k → F k ∨ k = x.b ∨ w.heap.size ≤ k := by
 obtain ⟨A, c, rfl⟩ := h.slice
 have hc : w.cell? ⟨q, 0, none⟩ = some (.slice A n c) := by rw [cell_of_row w q 0 _ _ _ h.cell]; rfl
 have hz : w.frozen? ⟨q, 0, none⟩ = false := frozen0 0 h.cell
 have x2 : w.cell? ⟨x.b, 2, none⟩ = some (.int .i64 z) := by rw [cell_of_row w x.b 2 _ _ _ hx]; rfl
 have xz : w.frozen? ⟨x.b, 2, none⟩ = false := frozen0 2 hx
 have hqx : q ≠ x.b := fun e => hF (e ▸ h.fq)
 have H := LH h
 have asv := assert_item
 have hown : Hid (((w.setCell ⟨x.b, 2, none⟩ (.int .i64 n)).alloc (.cells #[.pointer (some ⟨x.b, 0, none⟩)] 227)).ownsRow 0 227 1 (.slice A n c) n (ptrs n a)) :=
  own_keep h.row (((Keep.refl (fun k => k = x.b) w).setCell (p := ⟨x.b, 2, none⟩) (.inl rfl) _).alloc _) (fun k hk e => hF (e ▸ (h.frow k hk).1))
 have hs1 : (w.setCell ⟨x.b, 2, none⟩ (.int .i64 n)).heap.size = w.heap.size := by simp [World.setCell]
 have hnew := heap_alloc_new (w.setCell ⟨x.b, 2, none⟩ (.int .i64 n)) (.cells #[.pointer (some ⟨x.b, 0, none⟩)] 227)
 rw [hs1] at hnew
 have Hnew := LH hnew
 clear h hnew
 go_enter Tryz.func312, Tryz.ntmps312
 go_wp2_with (at_builtin; refine wpList_app _ rfl _ _ 210 210 rfl 0 227 (.pointer none) 1 8 u_ips info_ip rfl (.slice A n c) n (ptrs n a) rfl (.slice (some ⟨w.heap.size, 0, none⟩) 1 1) 1 [.pointer (some ⟨x.b, 0, none⟩)] rfl ?_ (by exact hown.out) (by exact Src.ofSlice _ u_ips ⟨w.heap.size, 0, none⟩ 1 1 _ rfl (World.news_of_block (cs := #[.pointer (some ⟨x.b, 0, none⟩)]) (t := 227) (fr := (0, 0)) Hnew.out) (by simp [Value.oneCell'])) (by simp only [maxLen]; omega) (by omega) (by exact Nat.zero_le _); intro v2 w2 hap; refine Hid.out ?_)
 refine LH ?_
 have Hap := LH hap
 obtain ⟨A2, c2, rfl, _⟩ := own_slice hap.own
 have k1 : Keep (fun k => (Value.slice A n c).ownBlock = some k) ((w.setCell ⟨x.b, 2, none⟩ (.int .i64 n)).alloc (.cells #[.pointer (some ⟨x.b, 0, none⟩)] 227)) w2 := (Keep.refl _ _).grown hap.grew (fun k hk => .inl hk)
 have k2 : Keep (fun k => k = x.b ∨ (Value.slice A n c).ownBlock = some k) w w2 := ((((Keep.refl (fun k => k = x.b) w).setCell (p := ⟨x.b, 2, none⟩) (.inl rfl) _).alloc _).mono (fun _ h => .inl h)).trans k1 (fun k hk => .inl (.inr hk))
 have hd : ¬ (q = x.b ∨ (Value.slice A n c).ownBlock = some q) := fun e => e.elim hqx (fun e => (H.out.frow _ e).2 rfl)
 have hc2 := k2.cell hc hd
 have hz2 := (k2.frozen (p := ⟨q, 0, none⟩) (H.out.lt q H.out.fq) hd).trans hz
 clear hap k1 k2 hd
 go_wp2
 go_end0
 obtain ⟨F', h1, h2, h3⟩ := H.out.pushed hx hF hn Hap.out
 exact ⟨rfl, _, F', h1, h2, h3⟩
end Go.Proofs.YtfkcpaahdlkcdaaGreat
namespace Go.Proofs.YtfkcpaahdlkcdaaGreat
def It.le (x y : It) : Prop := x.t < y.t ∨ x.t = y.t ∧ x.k ≤ y.k
theorem It.le_trans {x y z : It} (h : x.le y) (k : y.le z) : x.le z := by unfold It.le at *; omega
theorem It.le_of_less {x y : It} (h : x.less y = true) : x.le y := by
 have := of_decide_eq_true h
 unfold It.le; omega
theorem It.le_of_not {x y : It} (h : x.less y = false) : y.le x := by
 have := of_decide_eq_false h
 unfold It.le; omega
theorem It.le_refl (x : It) : x.le x := by unfold It.le; omega
def HeapN (a : Nat → It) (n : Nat) : Prop := ∀ k, 0 < k → k < n → (a ((k - 1) / 2)).le (a k)
structure UpI (a : Nat → It) (n j : Nat) : Prop where
 u1 : ∀ k, 0 < k → k < n → k ≠ j → (a ((k - 1) / 2)).le (a k)
 u2 : ∀ k, 0 < k → k < n → (k - 1) / 2 = j → 0 < j → (a ((j - 1) / 2)).le (a k)
structure DnI (a : Nat → It) (n i0 i : Nat) : Prop where
 d1 : ∀ k, 0 < k → k < n → k ≠ i → (k - 1) / 2 ≠ i → (a ((k - 1) / 2)).le (a k)
 d2 : ∀ k, 0 < k → k < n → (k - 1) / 2 = i → 0 < i → (a ((i - 1) / 2)).le (a k)
 d3 : i ≠ i0 → 0 < i ∧ (a ((i - 1) / 2)).le (a i)
 ge : i0 ≤ i
theorem UpI.zero {a : Nat → It} {n : Nat} (h : UpI a n 0) : HeapN a n := fun k h0 hk => h.u1 k h0 hk (by omega)
theorem UpI.stop {a : Nat → It} {n j : Nat} (h : UpI a n j) (hl : (a ((j - 1) / 2)).le (a j)) : HeapN a n := fun k h0 hk => by
 by_cases e : k = j
 ·subst e; exact hl
 ·exact h.u1 k h0 hk e
theorem UpI.step {a : Nat → It} {n j : Nat} (h : UpI a n j) (hj : 0 < j) (hn : j < n) (hl : (a j).le (a ((j - 1) / 2))) : UpI (swp a ((j - 1) / 2) j) n ((j - 1) / 2) := by
 have hi : (j - 1) / 2 < j := by omega
 constructor
 ·intro k h0 hk hne
  by_cases e : k = j
  ·subst e
   rw [show swp a ((k - 1) / 2) k ((k - 1) / 2) = a k from by simp [swp], show swp a ((k - 1) / 2) k k = a ((k - 1) / 2) from by simp [swp]; omega]
   exact hl
  ·rw [show swp a ((j - 1) / 2) j k = a k from by simp [swp, e, hne]]
   by_cases e1 : (k - 1) / 2 = j
   ·rw [e1, show swp a ((j - 1) / 2) j j = a ((j - 1) / 2) from by simp [swp]; omega]
    exact h.u2 k h0 hk e1 hj
   ·by_cases e2 : (k - 1) / 2 = (j - 1) / 2
    ·rw [e2, show swp a ((j - 1) / 2) j ((j - 1) / 2) = a j from by simp [swp]]
     have := h.u1 k h0 hk e
     rw [e2] at this
     exact It.le_trans hl this
    ·rw [show swp a ((j - 1) / 2) j ((k - 1) / 2) = a ((k - 1) / 2) from by simp [swp, e1, e2]]
     exact h.u1 k h0 hk e
 ·intro k h0 hk he hp
  have e1 : swp a ((j - 1) / 2) j (((j - 1) / 2 - 1) / 2) = a (((j - 1) / 2 - 1) / 2) := by
   unfold swp
   rw [if_neg (by omega), if_neg (by omega)]
  rw [e1]
  have h2 := h.u1 ((j - 1) / 2) hp (by omega) (by omega)
  by_cases e : k = j
  ·subst e
   rw [show swp a ((k - 1) / 2) k k = a ((k - 1) / 2) from by simp [swp]; omega]
   exact h2
  ·rw [show swp a ((j - 1) / 2) j k = a k from by unfold swp; rw [if_neg (by omega), if_neg e]]
   have := h.u1 k h0 hk e
   rw [he] at this
   exact It.le_trans h2 this
theorem DnI.done {a : Nat → It} {n i0 i : Nat} (h : DnI a n i0 i) (hx : ∀ k, 0 < k → k < n → (k - 1) / 2 = i → (a i).le (a k)) (hne : i ≠ i0) : HeapN a n := fun k h0 hk => by
 by_cases e : k = i
 ·subst e; exact (h.d3 hne).2
 ·by_cases e2 : (k - 1) / 2 = i
  ·rw [e2]; exact hx k h0 hk e2
  ·exact h.d1 k h0 hk e e2
theorem DnI.same {a : Nat → It} {n i : Nat} (h : DnI a n i i) (hx : ∀ k, 0 < k → k < n → (k - 1) / 2 = i → (a i).le (a k)) : UpI a n i := by
 constructor
 ·intro k h0 hk e
  by_cases e2 : (k - 1) / 2 = i
  ·rw [e2]; exact hx k h0 hk e2
  ·exact h.d1 k h0 hk e e2
 ·exact h.d2
theorem DnI.step {a : Nat → It} {n i0 i j : Nat} (h : DnI a n i0 i) (hj : (j - 1) / 2 = i) (h0j : 0 < j) (hjn : j < n) (hl : (a j).le (a i)) (hm : ∀ k, 0 < k → k < n → (k - 1) / 2 = i → (a j).le (a k)) : DnI (swp a i j) n i0 j := by
 have hij : i < j := by omega
 constructor
 ·intro k h0 hk hne hp
  by_cases e : k = i
  ·subst e
   rw [show swp a k j k = a j from by simp [swp], show swp a k j ((k - 1) / 2) = a ((k - 1) / 2) from by unfold swp; rw [if_neg (by omega), if_neg (by omega)]]
   exact h.d2 j h0j hjn hj h0
  ·rw [show swp a i j k = a k from by simp [swp, e, hne]]
   by_cases e2 : (k - 1) / 2 = i
   ·rw [e2, show swp a i j i = a j from by simp [swp]]
    exact hm k h0 hk e2
   ·rw [show swp a i j ((k - 1) / 2) = a ((k - 1) / 2) from by simp [swp, e2, hp]]
    exact h.d1 k h0 hk e e2
 ·intro k h0 hk he hp
  rw [hj, show swp a i j i = a j from by simp [swp], show swp a i j k = a k from by unfold swp; rw [if_neg (by omega), if_neg (by omega)]]
  have := h.d1 k h0 hk (by omega) (by omega)
  rw [he] at this
  exact this
 ·intro _
  refine ⟨h0j, ?_⟩
  rw [hj, show swp a i j i = a j from by simp [swp], show swp a i j j = a i from by simp [swp]; omega]
  exact hl
 ·have := h.ge
  omega
structure Same (a b : Nat → It) (n : Nat) : Prop where
 to : ∀ i, i < n → ∃ j, j < n ∧ b i = a j
 of : ∀ i, i < n → ∃ j, j < n ∧ a i = b j
 rest : ∀ i, n ≤ i → b i = a i
theorem Same.refl (a : Nat → It) (n : Nat) : Same a a n := ⟨fun i h => ⟨i, h, rfl⟩, fun i h => ⟨i, h, rfl⟩, fun _ _ => rfl⟩
theorem Same.trans {a b c : Nat → It} {n : Nat} (h : Same a b n) (k : Same b c n) : Same a c n := by
 refine ⟨fun i hi => ?_, fun i hi => ?_, fun i hi => (k.rest i hi).trans (h.rest i hi)⟩
 ·obtain ⟨j, hj, e⟩ := k.to i hi
  obtain ⟨m, hm, e2⟩ := h.to j hj
  exact ⟨m, hm, e.trans e2⟩
 ·obtain ⟨j, hj, e⟩ := h.of i hi
  obtain ⟨m, hm, e2⟩ := k.of j hj
  exact ⟨m, hm, e.trans e2⟩
theorem Same.swp (a : Nat → It) {n i j : Nat} (hi : i < n) (hj : j < n) : Same a (swp a i j) n := by
 refine ⟨fun k hk => ?_, fun k hk => ?_, fun k hk => ?_⟩
 ·unfold Go.Proofs.YtfkcpaahdlkcdaaGreat.swp
  split
  ·exact ⟨j, hj, rfl⟩
  ·split
   ·exact ⟨i, hi, rfl⟩
   ·exact ⟨k, hk, rfl⟩
 ·by_cases h1 : k = i
  ·by_cases h2 : i = j
   ·exact ⟨j, hj, by subst h2; simp [h1, Go.Proofs.YtfkcpaahdlkcdaaGreat.swp]⟩
   ·exact ⟨j, hj, by simp [h1, Go.Proofs.YtfkcpaahdlkcdaaGreat.swp]; omega⟩
  ·by_cases h2 : k = j
   ·exact ⟨i, hi, by simp [h2, Go.Proofs.YtfkcpaahdlkcdaaGreat.swp]⟩
   ·exact ⟨k, hk, by simp [h1, h2, Go.Proofs.YtfkcpaahdlkcdaaGreat.swp]⟩
 ·unfold Go.Proofs.YtfkcpaahdlkcdaaGreat.swp
  rw [if_neg (by omega), if_neg (by omega)]
theorem Same.mono {a b : Nat → It} {n m : Nat} (h : Same a b n) (hm : n ≤ m) : Same a b m := by
 refine ⟨fun i hi => ?_, fun i hi => ?_, fun i hi => h.rest i (by omega)⟩
 ·by_cases e : i < n
  ·obtain ⟨j, hj, q⟩ := h.to i e
   exact ⟨j, by omega, q⟩
  ·exact ⟨i, hi, h.rest i (by omega)⟩
 ·by_cases e : i < n
  ·obtain ⟨j, hj, q⟩ := h.of i e
   exact ⟨j, by omega, q⟩
  ·exact ⟨i, hi, (h.rest i (by omega)).symm⟩
theorem HeapN.min {a : Nat → It} {n : Nat} (h : HeapN a n) : ∀ k, k < n → (a 0).le (a k) := by
 intro k
 induction k using Nat.strongRecOn with
 | ind k ih =>
  intro hk
  by_cases h0 : k = 0
  ·subst h0; exact It.le_refl _
  ·exact It.le_trans (ih ((k - 1) / 2) (by omega) (by omega)) (h k (by omega) hk)
end Go.Proofs.YtfkcpaahdlkcdaaGreat

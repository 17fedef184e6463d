import Derived.Test.YtfkcpaahdlkcdaaGreatM17
import Derived.Laws.StructEq
/-! Joined: SnQ, SpA, SpB, SqA, SqB. -/
set_option linter.unusedSimpArgs false
set_option linter.unusedVariables false
namespace Go.Proofs.YtfkcpaahdlkcdaaGreat
open Go.RowKit

set_option maxRecDepth 100000 in
set_option maxHeartbeats 2000000 in
theorem snew_err (session : Int) (a : List (List Int)) (ho : OkA a) (hc : checkP a ≠ 0) {win back retry quota : Int} (hconf : OkC win back retry quota) (A : Option Addr) (c : Nat) (w : World) (hR : RowsR .u64 a (.slice A a.length c) w) :
    Calls Tryz.prog 16 #[.int .u64 session, .slice A a.length c, .agg #[.int .i64 win, .int .i64 back, .int .i64 retry, .int .i64 quota]] w fun e w' => e = .returned (.tuple #[.pointer none, .int .u16 (checkP a)]) ∧ Grow w w' := by
  have HG := Lib.hid ((Keep.refl NoB w).alloc (.cells #[.int .i64 win, .int .i64 back, .int .i64 retry, .int .i64 quota] 26))
  have H := Lib.hid (hR.grow HG.out)
  have hcb : (checkP a == 0) = false := by simpa using hc
  clear hR hc
  go_enter Tryz.func16, Tryz.ntmps16
  go_wp2_with fail
  refine (sright_calls win back retry quota hconf _).mono ?_
  rintro e w1 ⟨rfl, hg⟩
  replace HG := Lib.hid (HG.out.grow hg)
  replace H := Lib.hid (H.out.grow hg)
  clear hg
  go_wp2_with fail
  refine (check_calls a _ _ H.out ho).mono ?_
  rintro e w2 ⟨rfl, hg⟩
  replace HG := Lib.hid (HG.out.grow hg)
  clear hg
  go_wp2
  go_ret2
  exact ⟨rfl, HG.out⟩

theorem make_ints (w : World) (N : Nat) (hN : N ≤ 1000) : ∃ w', (Instr.makeSlice 37 (.int .i64 (N : Int)) (.int .i64 (N : Int))).run Tryz.prog w = .ok (.slice (some ⟨w.heap.size, 0, none⟩) N N) w' ∧ w'.ownsRow w.heap.size 3 1 (.slice (some ⟨w.heap.size, 0, none⟩) N N) N (ints (List.replicate N 0)) ∧ Grow w w' := by
  obtain ⟨i, hi, h1, h2, h3⟩ := info_parts info_int
  obtain ⟨w', hr, ho, hg⟩ := run_make_full (P := Tryz.prog) (w := w) w.heap.size 37 3 i (.int .i64 0) 1 u_ints hi h1 h2 .i64 .i64 N (by rw [h3]; omega) (by simp [maxLen]; omega) (Nat.le_refl _)
  refine ⟨w', hr, ?_, (Keep.refl NoB w).grown hg (by simp)⟩
  have h0 : (madeCells (Value.int .i64 0).cells (N * 1)).toList = ints (List.replicate N 0) := by
    apply List.ext_getElem (by simp [ints, madeCells, Value.cells])
    intro j h1 h2
    simp [ints, madeCells, Value.cells, Nat.mod_one]
  rw [h0] at ho
  exact ho
set_option maxRecDepth 100000 in
set_option maxHeartbeats 8000000 in
theorem snew_calls (session : Int) (h0 : 0 ≤ session) (h1 : session ≤ 18446744073709551615) (a : List (List Int)) (ho : OkA a) (hc : checkP a = 0) {win back retry quota : Int} (hconf : OkC win back retry quota) (A : Option Addr) (c : Nat) (w : World) (hR : RowsR .u64 a (.slice A a.length c) w) :
    Calls Tryz.prog 16 #[.int .u64 session, .slice A a.length c, .agg #[.int .i64 win, .int .i64 back, .int .i64 retry, .int .i64 quota]] w fun e w' => ∃ g p Fq G, e = .returned (.tuple #[.pointer (some ⟨g, 0, none⟩), .int .u16 0]) ∧ SAt g p (newD session a win back retry quota) Fq G w' ∧ Grow w w' ∧ (∀ k, SF g p.rt Fq k → w.heap.size ≤ k) ∧ ∀ k, G k → w.heap.size ≤ k := by
  have hfit := check_fit hc
  have hfl := fit_flat hfit
  have HFIT := Lib.hid hfit
  have hga := (Keep.refl NoB w).alloc (.cells #[.int .i64 win, .int .i64 back, .int .i64 retry, .int .i64 quota] 26)
  have HG := Lib.hid hga
  have HC := Lib.hid (heap_alloc_new w (.cells #[.int .i64 win, .int .i64 back, .int .i64 retry, .int .i64 quota] 26))
  have H := Lib.hid (hR.grow hga)
  have HCK := Lib.hid hc
  have HR0 := Lib.hid hR
  have HO := Lib.hid ho
  clear hR hc hga hfit ho
  go_enter Tryz.func16, Tryz.ntmps16
  go_wp2_with fail
  refine (sright_calls win back retry quota hconf _).mono ?_
  rintro e w1 ⟨rfl, hg⟩
  replace HG := Lib.hid (HG.out.grow hg)
  replace HC := Lib.hid (Grow.heap hg HC.out)
  replace H := Lib.hid (H.out.grow hg)
  clear hg
  go_wp2_with fail
  refine (check_calls a _ _ H.out HO.out).mono ?_
  rintro e w2 ⟨rfl, hg⟩
  rw [HCK.out]
  replace HG := Lib.hid (HG.out.grow hg)
  replace HC := Lib.hid (Grow.heap hg HC.out)
  replace H := Lib.hid (H.out.grow hg)
  clear hg
  go_wp2_with fail
  refine (maniof_calls session h0 h1 a HO.out HFIT.out (by omega) A c w2 H.out).mono ?_
  rintro e w3 ⟨As, cs, rfl, hg, G1, hsz, hG1⟩
  have hga := (Keep.refl NoB w3).alloc (.cells #[.int .u64 session, .slice As (szs a).length cs, .int .u32 (sumP session a : Nat)] 40)
  have hM := heap_alloc_new w3 (.cells #[.int .u64 session, .slice As (szs a).length cs, .int .u32 (sumP session a : Nat)] 40)
  have hsz0 := HG.out.size
  replace HG := Lib.hid ((HG.out.grow hg).grow hga)
  replace HC := Lib.hid (Grow.heap hga (Grow.heap hg HC.out))
  replace H := Lib.hid ((H.out.grow hg).grow hga)
  have HSZ := Lib.hid (hsz.grow hga)
  have HM := Lib.hid hM
  have HG1 : Hid (∀ k, G1 k → w.heap.size ≤ k) := Lib.hid (fun k hk => Nat.le_trans hsz0 (hG1 k hk))
  clear hg hga hsz hG1 hM hsz0
  go_wp2
  generalize w3.alloc (.cells #[.int .u64 session, .slice As (szs a).length cs, .int .u32 (sumP session a : Nat)] 40) = w4 at HG HC H HSZ HM ⊢
  generalize w3.heap.size = M at HM ⊢
  obtain ⟨m0, m1, m2, mf⟩ := cells3 HM.out
  obtain ⟨k0, k1, k2, k3, kf⟩ := cells4 HC.out
  refine region_ord [1, 2, 4, 5, 0, 3, 6, 7, 8] [0, 3, 7, 8] [1, 2, 4] [] rfl (by kernel_rfl) ?_
  refine ord_read rfl rfl rfl rfl rfl (fun _ _ _ _ h => h) ?_ ?_ ?_ ?_ ?_
  rotate_left 2
  · intro w' hg; have q0 := hg.cell m0 (fun h => h); have q1 := hg.cell m1 (fun h => h); have q2 := hg.cell m2 (fun h => h); go_simp; with_reducible rfl
  · simp only [Act.put, List.setIfInBounds_toArray, List.set_cons_zero, List.set_cons_succ]; rfl
  refine ord_read rfl rfl rfl rfl rfl (fun _ _ _ _ h => h) ?_ ?_ ?_ ?_ ?_
  rotate_left 2
  · intro w' hg; have q0 := hg.cell m0 (fun h => h); have q1 := hg.cell m1 (fun h => h); have q2 := hg.cell m2 (fun h => h); go_simp; with_reducible rfl
  · simp only [Act.put, List.setIfInBounds_toArray, List.set_cons_zero, List.set_cons_succ]; rfl
  refine ord_read rfl rfl rfl rfl rfl (fun _ _ _ _ h => h) ?_ ?_ ?_ ?_ ?_
  rotate_left 2
  · intro w' hg; have q0 := hg.cell k0 (fun h => h); have q1 := hg.cell k1 (fun h => h); have q2 := hg.cell k2 (fun h => h); have q3 := hg.cell k3 (fun h => h); go_simp; with_reducible rfl
  · simp only [Act.put, List.setIfInBounds_toArray, List.set_cons_zero, List.set_cons_succ]; rfl
  refine ord_pure rfl rfl rfl rfl rfl (fun _ _ _ _ h => h) ?_ ?_ ?_ ?_ ?_
  rotate_left 2
  · intro w'; go_simp; with_reducible rfl
  · simp only [Act.put, List.setIfInBounds_toArray, List.set_cons_zero, List.set_cons_succ]; rfl
  refine ord_call rfl rfl rfl rfl rfl Tryz.func62 rfl rfl [] rfl ?_
  refine (tnew_calls _).mono ?_
  rintro e w5 ⟨q, Fq, rfl, hQ, hg5, hF5⟩
  refine ⟨_, rfl, fun _ => hg5, ?_⟩
  simp only [Act.put, List.setIfInBounds_toArray, List.set_cons_zero, List.set_cons_succ]
  have hgd := (Keep.refl NoB w4).drew.grow hg5
  have hsz4 := HG.out.size
  have hFq : ∀ k, Fq k → w.heap.size ≤ k ∧ k < w5.heap.size := fun k hk => ⟨Nat.le_trans hsz4 (hF5 k hk).1, (hF5 k hk).2⟩
  have hG1 : ∀ k, G1 k → w.heap.size ≤ k ∧ k < w5.heap.size := fun k hk => ⟨HG1.out k hk, Nat.lt_of_lt_of_le (HSZ.out.lt hk) hgd.size⟩
  have HSZ4 : Hid (∀ k, G1 k → k < w4.heap.size) := Lib.hid (fun k hk => HSZ.out.lt hk)
  replace HSZ := Lib.hid (HSZ.out.grow hgd)
  have HGW := Lib.hid (HG.out.grow hgd)
  have HH := Lib.hid (H.out.grow hgd)
  have HMM := Lib.hid (Grow.heap hgd HM.out)
  have HQ := Lib.hid hQ
  have HFQ := Lib.hid hFq
  have HFG : Hid (∀ k, Fq k → ¬ G1 k) := Lib.hid (fun k hk h2 => by have h3 := (hF5 k hk).1; have h4 := HSZ4.out k h2; have h5 : w4.drew.heap.size = w4.heap.size := rfl; omega)
  have HGG := Lib.hid hG1
  clear hQ hg5 hF5 hgd hsz4 hFq hG1
  refine ord_call rfl rfl rfl rfl rfl Tryz.func63 rfl rfl [.agg #[.int .u64 session, .slice As (szs a).length cs, .int .u32 (sumP session a : Nat)]] rfl ?_
  refine (mpages_calls session (sumP session a) As cs (szs a) w5 HSZ.out.now HFIT.out).mono ?_
  rintro e w6 ⟨rfl, hg6⟩
  refine ⟨_, rfl, fun _ => hg6, ?_⟩
  simp only [Act.put, List.setIfInBounds_toArray, List.set_cons_zero, List.set_cons_succ]
  refine ord_pure rfl rfl rfl rfl rfl (fun _ _ _ _ h => h) ?_ ?_ ?_ ?_ ?_
  rotate_left 2
  · intro w'; go_simp; with_reducible rfl
  · simp only [Act.put, List.setIfInBounds_toArray, List.set_cons_zero, List.set_cons_succ]; rfl
  refine ord_new rfl rfl rfl rfl ?_ ?_ ?_ ?_ ?_ ?_
  rotate_left 3
  · go_simp; first | with_reducible rfl | (constructor <;> with_reducible rfl)
  · simp only [Act.put, List.setIfInBounds_toArray, List.set_cons_zero, List.set_cons_succ]; rfl
  refine ord_set rfl rfl rfl rfl ?_ ?_ ?_ ?_ ?_
  rotate_left 2
  · go_simp; with_reducible rfl
  · simp only [Act.put, List.setIfInBounds_toArray, List.set_cons_zero, List.set_cons_succ]; rfl
  refine ord_nil ?_
  have hga := (Keep.refl NoB w6).alloc (.cells #[.pointer (some ⟨q, 0, none⟩), .int .u64 session, .slice As (szs a).length cs, .int .u32 (sumP session a : Nat), .int .i64 (pagesN (szs a) : Nat), .slice none 0 0, .int .i64 win, .int .i64 back, .int .i64 retry, .int .i64 quota, .int .i64 1, .int .u16 0, .slice none 0 0, .slice none 0 0, .int .u64 session] 131)
  have HN : Hid (NewI w6.heap.size w session a win back retry quota q As cs Fq G1 [] none 0 NoB (.slice none 0 0) (.slice none 0 0) (w6.alloc (.cells #[.pointer (some ⟨q, 0, none⟩), .int .u64 session, .slice As (szs a).length cs, .int .u32 (sumP session a : Nat), .int .i64 (pagesN (szs a) : Nat), .slice none 0 0, .int .i64 win, .int .i64 back, .int .i64 retry, .int .i64 quota, .int .i64 1, .int .u16 0, .slice none 0 0, .slice none 0 0, .int .u64 session] 131))) := by
    have h6 := hg6.size
    refine Lib.hid ⟨heap_alloc_new w6 _, (HQ.out.keep hg6 (fun _ _ h => h)).keep hga (fun _ _ h => h), (HSZ.out.grow hg6).grow hga, World.ownsRow_nil _ _ _ _, ⟨fun _ h => h.elim, fun W2 _ i hi => by simp at hi⟩, fun k hk => ?_, fun k hk h2 => HFG.out k hk h2, fun k hk => ?_, fun _ h => h.elim, fun _ _ h => h, (HGW.out.grow hg6).grow hga, ?_⟩
    · have := HFQ.out k hk; omega
    · have := HGG.out k hk; omega
    · have := HGW.out.size; omega
  replace HH := Lib.hid ((HH.out.grow hg6).grow hga)
  replace HMM := Lib.hid (Grow.heap hga (Grow.heap hg6 HMM.out))
  clear hg6 hga HSZ HGW HQ HFQ HGG HG HC H HM HG1 HCK m0 m1 m2 mf k0 k1 k2 k3 kf
  generalize w6.alloc (.cells #[.pointer (some ⟨q, 0, none⟩), .int .u64 session, .slice As (szs a).length cs, .int .u32 (sumP session a : Nat), .int .i64 (pagesN (szs a) : Nat), .slice none 0 0, .int .i64 win, .int .i64 back, .int .i64 retry, .int .i64 quota, .int .i64 1, .int .u16 0, .slice none 0 0, .slice none 0 0, .int .u64 session] 131) = w7 at HN HH HMM ⊢
  generalize w6.heap.size = g at HN ⊢
  obtain ⟨m0, m1, m2, mf⟩ := cells3 HMM.out
  go_wp2_with fail
  refine (mchunks_calls session (sumP session a) As cs (szs a) w7 HN.out.sz.now HFIT.out).mono ?_
  rintro e w8 ⟨rfl, hg⟩
  replace HN := Lib.hid (HN.out.later hg)
  replace HH := Lib.hid (HH.out.grow hg)
  clear hg HMM m0 m1 m2 mf
  have HOK := Lib.hid (newD_ok (session := session) (a := a) (win := win) (back := back) (retry := retry) (quota := quota) h0 h1 HFIT.out hconf)
  have hnb : chunksN (szs a) ≤ 512 ∧ pagesN (szs a) ≤ 4 := by
    have h9 := szs_sum a
    have h8 := fits_parts HFIT.out
    unfold chunksN pagesN
    omega
  obtain ⟨n, hn⟩ : ∃ n, chunksN (szs a) = n := ⟨_, rfl⟩
  have HNN := Lib.hid hn
  rw [hn] at hnb ⊢
  clear hn hconf
  go_wp2
  go_loopw [38] (fun v wr => ∃ k : Nat, k ≤ n ∧ v = .int .i64 k ∧ Hid (∃ rows Ac cc Gc, rows.length = k ∧ NewI g w session a win back retry quota q As cs Fq G1 rows Ac cc Gc (.slice none 0 0) (.slice none 0 0) wr)) (fun v _ => n - (intOf v).toNat)
  case atStart => exact ⟨0, by omega, rfl, [], none, 0, NoB, rfl, HN.out⟩
  case round =>
    clear HN HH
    obtain ⟨k, hk, rfl, HR⟩ := hrel
    obtain ⟨rows, Ac, cc, Gc, hrl, hN⟩ := HR.out
    have HN := Lib.hid hN
    clear HR hN
    subst hrl
    obtain ⟨c0, c1, c2, c3, c4, c5, c6, c7, c8, c9, c10, c11, c12, c13, c14, cf⟩ := cells15 HN.out.cell
    by_cases hlt : rows.length < n
    · have hlt' : (rows.length : Int) < n := by omega
      have hw : IntKind.i64.wrap ((rows.length : Int) + 1) = (rows.length : Int) + 1 := IntWalk.i64_in _ (by omega)
      have HCH := Lib.hid (mchunk_calls a HO.out HFIT.out (by omega) rows.length (by rw [HNN.out]; exact hlt) A c wr.drew (HR0.out.grow HN.out.grow.drew))
      have hgl := (Array.getElem?_eq_some_iff.1 HN.out.cell).1
      go_wp2
      refine region_ord [0, 1, 2, 3, 4, 5, 6, 7, 8, 9, 10, 11, 12] [7, 8, 9, 12] [4] [9, 12] rfl (by kernel_rfl) ?_
      iterate 4
        refine ord_pure rfl rfl rfl rfl rfl (fun _ _ _ _ h => h) ?_ ?_ ?_ ?_ ?_
        rotate_left 2
        · intro w'; go_simp; with_reducible rfl
        · simp only [Act.put, List.setIfInBounds_toArray, List.set_cons_zero, List.set_cons_succ]; rfl
      refine ord_read rfl rfl rfl rfl rfl (fun _ _ _ _ h => h) ?_ ?_ ?_ ?_ ?_
      rotate_left 2
      · intro w' hg; have q := hg.cell c5 (fun h => h); go_simp; with_reducible rfl
      · simp only [Act.put, List.setIfInBounds_toArray, List.set_cons_zero, List.set_cons_succ]; rfl
      iterate 2
        refine ord_pure rfl rfl rfl rfl rfl (fun _ _ _ _ h => h) ?_ ?_ ?_ ?_ ?_
        rotate_left 2
        · intro w'; go_simp; with_reducible rfl
        · simp only [Act.put, List.setIfInBounds_toArray, List.set_cons_zero, List.set_cons_succ]; rfl
      refine ord_call rfl rfl rfl rfl rfl Tryz.func65 rfl rfl [.slice A a.length c, .int .i64 rows.length] rfl ?_
      refine HCH.out.mono ?_
      rintro e w9 ⟨A5, k5, rfl, hg9, hob⟩
      refine ⟨_, rfl, fun _ => hg9, ?_⟩
      simp only [Act.put, List.setIfInBounds_toArray, List.set_cons_zero, List.set_cons_succ]
      obtain ⟨L, hL⟩ : ∃ L, (chunkP a rows.length).length = L := ⟨_, rfl⟩
      have HLL := Lib.hid hL
      rw [hL] at hob ⊢
      clear hL
      refine ord_new rfl rfl rfl rfl ?_ ?_ ?_ ?_ ?_ ?_
      rotate_left 3
      · go_simp; first | with_reducible rfl | (constructor <;> with_reducible rfl)
      · simp only [Act.put, List.setIfInBounds_toArray, List.set_cons_zero, List.set_cons_succ]; rfl
      have hgx := (Keep.refl NoB wr).drew.grow hg9
      have hga := (Keep.refl NoB w9).alloc (.cells #[.slice A5 L k5] 23)
      have hN9 := (HN.out.later hgx).later hga
      have hx9 := (Foot.of_own hob).grow hga
      have hxlo : ∀ k, (Value.slice A5 L k5).ownBlock = some k → wr.heap.size ≤ k := fun k hk => (hob.lt k hk).1
      have hownlt : ∀ k, (Value.slice Ac rows.length cc).ownBlock = some k → k < wr.heap.size := fun k hk => (HN.out.own.lt k hk).2
      have hg9s := hgx.size
      refine ord_act rfl rfl (fun K hK => ?_)
      refine step_app _ rfl _ _ 129 129 rfl (g + 1) 23 (.slice none 0 0) 1 24 u_bss info_bytes rfl (.slice Ac rows.length cc) rows.length rows rfl (.slice (some ⟨w9.heap.size, 0, none⟩) 1 1) 1 [.slice A5 L k5] rfl ?_ (by exact hN9.own) (by exact Src.ofSlice _ u_bss ⟨w9.heap.size, 0, none⟩ 1 1 _ rfl (World.news_of_block (cs := #[.slice A5 L k5]) (t := 23) (fr := (0, 0)) (heap_alloc_new w9 _)) (by simp [Value.oneCell'])) (by simp only [maxLen]; omega) (by omega) (by simp; omega)
      intro v' w10 hap
      obtain ⟨A', c', rfl, _⟩ := own_slice hap.own
      refine hK _ _ ⟨fun h => absurd (by simp) h, ?_⟩
      clear hK K
      simp only [Act.put, List.setIfInBounds_toArray, List.set_cons_zero, List.set_cons_succ]
      have HN10 : Hid (NewI g w session a win back retry quota q As cs Fq G1 (rows ++ [.slice A5 L k5]) A' c' (fun k => Gc k ∨ (Value.slice A5 L k5).ownBlock = some k) (.slice none 0 0) (.slice none 0 0) (w10.setCell ⟨g, 5, none⟩ (.slice A' (rows.length + 1) c'))) := by
        have h9 := HLL.out
        have hat := of_append hap
        have hch := hN9.chunk (A := A5) (c := k5) (by rw [h9]; exact hx9) (fun k hk => by have := hxlo k hk; omega) (fun k hk h2 => by have := hxlo k h2; have := hownlt k hk; omega) hap.grew (by rw [h9]; exact hap.own) (fun k hk => (hat k hk).imp id (fun e => by omega))
        rw [h9] at hch
        exact Lib.hid hch
      have hg10 := (((Keep.refl (fun k => (Value.slice Ac rows.length cc).ownBlock = some k) _).grown hap.grew (fun k hk => .inl hk)).block g (Array.getElem?_eq_some_iff.1 hN9.cell).1 (fun e => by have := (HN.out.own.lt g e).1; omega)).trans hN9.cell
      have s5 := (cells15 hg10).2.2.2.2.2.1
      have sf := frozen0 5 hg10
      clear hg10
      iterate 2
        refine ord_pure rfl rfl rfl rfl rfl (fun _ _ _ _ h => h) ?_ ?_ ?_ ?_ ?_
        rotate_left 2
        · intro w'; go_simp; with_reducible rfl
        · simp only [Act.put, List.setIfInBounds_toArray, List.set_cons_zero, List.set_cons_succ]; rfl
      refine ord_put rfl rfl rfl rfl ?_ ?_ (fun h => absurd (by simp) h) ?_
      rotate_left
      · go_simp; with_reducible rfl
      refine ord_nil ?_
      clear s5 sf hN9 hx9 hxlo hownlt hap HN hob hga hgx c0 c1 c2 c3 c4 c5 c6 c7 c8 c9 c10 c11 c12 c13 c14 cf
      go_wp2
      go_roundw
      case rel => exact ⟨rows.length + 1, by omega, by go_num, rows ++ [.slice A5 L k5], A', c', _, by simp, HN10.out⟩
      case measure => simp [intOf]; omega
    · have hrn : rows.length = n := by omega
      have HRN := Lib.hid (hrn.trans HNN.out.symm)
      rw [hrn] at c5
      have hlt' : ¬ ((n : Int) < n) := by omega
      rw [hrn]
      obtain ⟨pp, hpp⟩ : ∃ pp, pagesN (szs a) = pp := ⟨_, rfl⟩
      rw [hpp] at c4 hnb
      have HPP := Lib.hid hpp
      obtain ⟨N, hN⟩ : ∃ N, pp + n = N := ⟨_, rfl⟩
      have HNE : Hid (N = pagesN (szs a) + chunksN (szs a)) := Lib.hid (by rw [HPP.out, HNN.out, hN])
      have hNb : N ≤ 1000 := by omega
      have hw : IntKind.i64.wrap ((pp : Int) + n) = (N : Int) := by rw [IntWalk.i64_in _ (by omega)]; omega
      have HNX := Lib.hid hN
      clear hN
      clear hpp hlt hrn hk
      go_wp2
      refine region_ord [0, 1, 2, 3, 4, 5, 6, 7, 8, 9, 10] [10] [3, 7] [] rfl (by kernel_rfl) ?_
      iterate 3
        refine ord_pure rfl rfl rfl rfl rfl (fun _ _ _ _ h => h) ?_ ?_ ?_ ?_ ?_
        rotate_left 2
        · intro w'; go_simp; with_reducible rfl
        · simp only [Act.put, List.setIfInBounds_toArray, List.set_cons_zero, List.set_cons_succ]; rfl
      refine ord_read rfl rfl rfl rfl rfl (fun _ _ _ _ h => h) ?_ ?_ ?_ ?_ ?_
      rotate_left 2
      · intro w' hg; have q := hg.cell c4 (fun h => h); go_simp; with_reducible rfl
      · simp only [Act.put, List.setIfInBounds_toArray, List.set_cons_zero, List.set_cons_succ]; rfl
      iterate 3
        refine ord_pure rfl rfl rfl rfl rfl (fun _ _ _ _ h => h) ?_ ?_ ?_ ?_ ?_
        rotate_left 2
        · intro w'; go_simp; with_reducible rfl
        · simp only [Act.put, List.setIfInBounds_toArray, List.set_cons_zero, List.set_cons_succ]; rfl
      refine ord_read rfl rfl rfl rfl rfl (fun _ _ _ _ h => h) ?_ ?_ ?_ ?_ ?_
      rotate_left 2
      · intro w' hg; have q := hg.cell c5 (fun h => h); go_simp; with_reducible rfl
      · simp only [Act.put, List.setIfInBounds_toArray, List.set_cons_zero, List.set_cons_succ]; rfl
      iterate 2
        refine ord_pure rfl rfl rfl rfl rfl (fun _ _ _ _ h => h) ?_ ?_ ?_ ?_ ?_
        rotate_left 2
        · intro w'; go_simp; with_reducible rfl
        · simp only [Act.put, List.setIfInBounds_toArray, List.set_cons_zero, List.set_cons_succ]; rfl
      refine ord_set rfl rfl rfl rfl ?_ ?_ ?_ ?_ ?_
      rotate_left 2
      · go_simp; with_reducible rfl
      · simp only [Act.put, List.setIfInBounds_toArray, List.set_cons_zero, List.set_cons_succ]; rfl
      refine ord_nil ?_
      replace HN := Lib.hid (HN.out.later (Keep.refl NoB wr).drew)
      generalize wr.drew = wd at HN ⊢
      clear hw c0 c1 c2 c3 c4 c5 c6 c7 c8 c9 c10 c11 c12 c13 c14 cf
      have hgl := (Array.getElem?_eq_some_iff.1 HN.out.cell).1
      have hgB : g < wd.heap.size := hgl
      have hB4 : ∀ k, ((Value.slice Ac rows.length cc).ownBlock = some k ∨ Gc k) → k < wd.heap.size := fun k hk => by
        rcases hk with e | e
        · exact (HN.out.own.lt k e).2
        · exact HN.out.rws.lt e
      have hds : wd.drew.heap.size = wd.heap.size := rfl
      go_wp2
      refine region_cut NoB [0, 1, 2, 4] [] [] [8, 11] #[true, true, true, false, true, false, false, false, false, false, false, false] 8 rfl (by kernel_rfl) ?_
      iterate 4
        refine ord_pure rfl rfl rfl rfl rfl (fun _ _ _ _ h => h) ?_ ?_ ?_ ?_ ?_
        rotate_left 2
        · intro w'; go_simp; with_reducible rfl
        · simp only [Act.put, List.setIfInBounds_toArray, List.set_cons_zero, List.set_cons_succ]; rfl
      refine ord_nil ?_
      refine any_fork 3 5 #[true, true, true, true, true, false, false, false, false, false, false, false] #[true, true, true, false, true, true, false, false, false, false, false, false] (by kernel_rfl) ?_ ?_
      ·
        refine ord_call rfl rfl rfl rfl rfl Tryz.func66 rfl rfl [.int .i64 N] rfl ?_
        refine (bmake_calls N (by omega) _).mono ?_
        rintro e w9 ⟨Aa, ca, rfl, hg9, hoA⟩
        refine ⟨_, rfl, fun _ => hg9, ?_⟩
        simp only [Act.put, List.setIfInBounds_toArray, List.set_cons_zero, List.set_cons_succ]
        refine ord_nil ?_
        have hs9 := hg9.size
        have hN9 := (HN.out.later (Keep.refl NoB wd).drew).later hg9
        have hbA : ∀ k, (Value.slice Aa (makeB N).length ca).ownBlock = some k → k < w9.heap.size ∧ wd.heap.size ≤ k := fun k hk => ⟨(hoA.lt k hk).2, (hoA.lt k hk).1⟩
        refine any_cut (n := 5) [6, 7] [] [] #[true, true, true, true, true, false, true, true, false, false, false, false] (by kernel_rfl) ?_
        iterate 2
          refine ord_pure rfl rfl rfl rfl rfl (fun _ _ _ _ h => h) ?_ ?_ ?_ ?_ ?_
          rotate_left 2
          · intro w'; go_simp; with_reducible rfl
          · simp only [Act.put, List.setIfInBounds_toArray, List.set_cons_zero, List.set_cons_succ]; rfl
        refine ord_nil ?_
        refine any_fork 5 8 #[true, true, true, true, true, true, true, true, false, false, false, false] #[true, true, true, true, true, false, true, true, true, false, false, false] (by kernel_rfl) ?_ ?_
        ·
          obtain ⟨wt, hmk, hot, hgt⟩ := make_ints w9 N hNb
          refine ord_do rfl rfl rfl rfl _ wt _ (by have q := hmk; go_simp; with_reducible rfl) (fun _ => hgt) (by simp only [Act.put, List.setIfInBounds_toArray, List.set_cons_zero, List.set_cons_succ]; rfl) ?_
          refine ord_nil ?_
          have hNt := hN9.later hgt
          refine any_ord [8, 9, 10, 11] [8, 11] [] (by kernel_rfl) ?_
          have hcc := hNt.cell
          have sc := (cells15 hcc).2.2.2.2.2.2.2.2.2.2.2.2.1
          have sf := frozen0 12 hcc
          refine ord_put rfl rfl rfl rfl ?_ ?_ (fun h => absurd (by simp) h) ?_
          rotate_left
          · go_simp; with_reducible rfl
          clear sc sf hcc
          have hNa := hNt.acked (.slice Aa (makeB N).length ca)
          iterate 2
            refine ord_pure rfl rfl rfl rfl rfl (fun _ _ _ _ h => h) ?_ ?_ ?_ ?_ ?_
            rotate_left 2
            · intro w'; go_simp; with_reducible rfl
            · simp only [Act.put, List.setIfInBounds_toArray, List.set_cons_zero, List.set_cons_succ]; rfl
          have hcc := hNa.cell
          have sc := (cells15 hcc).2.2.2.2.2.2.2.2.2.2.2.2.2.1
          have sf := frozen0 13 hcc
          refine ord_put rfl rfl rfl rfl ?_ ?_ (fun h => absurd (by simp) h) ?_
          rotate_left
          · go_simp; with_reducible rfl
          clear sc sf hcc
          refine ord_nil ?_
          have hfin := (hNa.tries (.slice (some ⟨w9.heap.size, 0, none⟩) N N)).done HOK.out HRN.out HNE.out (own_keep (own_keep (own_keep hoA hgt (fun _ _ h => h)) (keep_put g 12 _ _) (fun k hk e => by have := (hbA k hk).2; omega)) (keep_put g 13 _ _) (fun k hk e => by have := (hbA k hk).2; omega)) (own_base0 (own_keep (own_keep hot (keep_put g 12 _ _) (fun k hk e => by have := (hot.lt k hk).1; omega)) (keep_put g 13 _ _) (fun k hk e => by have := (hot.lt k hk).1; omega))) (fun e => by have := (hbA _ e).1; omega) (fun k hk => (hbA k hk).2) (B := wd.heap.size) (by omega) hgB hB4
          obtain ⟨p, F, G, hS, hgw, hsf, hgk⟩ := hfin
          have HS := Lib.hid hS
          have HGW := Lib.hid hgw
          have HSF := Lib.hid hsf
          have HGK := Lib.hid hgk
          clear hS hgw hsf hgk hg9 hgt hmk hot hoA hgl hB4 hgB HN
          go_wp2
          go_ret2
          exact ⟨g, p, F, G, rfl, HS.out, HGW.out, HSF.out, HGK.out⟩
        ·
          have hcc := hN9.cell
          have sc := (cells15 hcc).2.2.2.2.2.2.2.2.2.2.2.2.1
          have sf := frozen0 12 hcc
          refine ord_put rfl rfl rfl rfl ?_ ?_ (fun h => absurd (by simp) h) ?_
          rotate_left
          · go_simp; with_reducible rfl
          clear sc sf hcc
          refine ord_nil ?_
          have hNa := hN9.acked (.slice Aa (makeB N).length ca)
          have hsa : (w9.setCell ⟨g, 12, none⟩ (.slice Aa (makeB N).length ca)).heap.size = w9.heap.size := by simp
          refine any_ord [5, 9, 10, 11] [5, 11] [] (by kernel_rfl) ?_
          obtain ⟨wt, hmk, hot, hgt⟩ := make_ints (w9.setCell ⟨g, 12, none⟩ (.slice Aa (makeB N).length ca)) N hNb
          rw [hsa] at hmk hot
          refine ord_do rfl rfl rfl rfl _ wt _ (by have q := hmk; go_simp; with_reducible rfl) (fun _ => hgt) (by simp only [Act.put, List.setIfInBounds_toArray, List.set_cons_zero, List.set_cons_succ]; rfl) ?_
          have hNt := hNa.later hgt
          iterate 2
            refine ord_pure rfl rfl rfl rfl rfl (fun _ _ _ _ h => h) ?_ ?_ ?_ ?_ ?_
            rotate_left 2
            · intro w'; go_simp; with_reducible rfl
            · simp only [Act.put, List.setIfInBounds_toArray, List.set_cons_zero, List.set_cons_succ]; rfl
          have hcc := hNt.cell
          have sc := (cells15 hcc).2.2.2.2.2.2.2.2.2.2.2.2.2.1
          have sf := frozen0 13 hcc
          refine ord_put rfl rfl rfl rfl ?_ ?_ (fun h => absurd (by simp) h) ?_
          rotate_left
          · go_simp; with_reducible rfl
          clear sc sf hcc
          refine ord_nil ?_
          have hfin := (hNt.tries _).done HOK.out HRN.out HNE.out (own_keep (own_keep (own_keep hoA (keep_put g 12 _ _) (fun k hk e => by have := (hbA k hk).2; omega)) hgt (fun _ _ h => h)) (keep_put g 13 _ _) (fun k hk e => by have := (hbA k hk).2; omega)) (own_base0 (own_keep hot (keep_put g 13 _ _) (fun k hk e => by have := (hot.lt k hk).1; omega))) (fun e => by have := (hbA _ e).1; omega) (fun k hk => (hbA k hk).2) (B := wd.heap.size) (by omega) hgB hB4
          obtain ⟨p, F, G, hS, hgw, hsf, hgk⟩ := hfin
          have HS := Lib.hid hS
          have HGW := Lib.hid hgw
          have HSF := Lib.hid hsf
          have HGK := Lib.hid hgk
          clear hS hgw hsf hgk hg9 hgt hmk hot hoA hgl hB4 hgB HN
          go_wp2
          go_ret2
          exact ⟨g, p, F, G, rfl, HS.out, HGW.out, HSF.out, HGK.out⟩
      ·
        obtain ⟨wt, hmk, hot, hgt⟩ := make_ints wd.drew N hNb
        refine ord_do rfl rfl rfl rfl _ wt _ (by have q := hmk; go_simp; with_reducible rfl) (fun _ => hgt) (by simp only [Act.put, List.setIfInBounds_toArray, List.set_cons_zero, List.set_cons_succ]; rfl) ?_
        refine ord_nil ?_
        have hst := hgt.size
        refine any_ord [3, 6, 7, 8, 9, 10, 11] [3, 8, 11] [] (by kernel_rfl) ?_
        refine ord_call rfl rfl rfl rfl rfl Tryz.func66 rfl rfl [.int .i64 N] rfl ?_
        refine (bmake_calls N (by omega) _).mono ?_
        rintro e w9 ⟨Aa, ca, rfl, hg9, hoA⟩
        refine ⟨_, rfl, fun _ => hg9, ?_⟩
        simp only [Act.put, List.setIfInBounds_toArray, List.set_cons_zero, List.set_cons_succ]
        have hNt := ((HN.out.later (Keep.refl NoB wd).drew).later hgt).later hg9
        have hbA : ∀ k, (Value.slice Aa (makeB N).length ca).ownBlock = some k → wt.heap.size ≤ k := fun k hk => (hoA.lt k hk).1
        have htl : wd.drew.heap.size < wt.heap.size := (hot.lt _ rfl).2
        iterate 2
          refine ord_pure rfl rfl rfl rfl rfl (fun _ _ _ _ h => h) ?_ ?_ ?_ ?_ ?_
          rotate_left 2
          · intro w'; go_simp; with_reducible rfl
          · simp only [Act.put, List.setIfInBounds_toArray, List.set_cons_zero, List.set_cons_succ]; rfl
        have hcc := hNt.cell
        have sc := (cells15 hcc).2.2.2.2.2.2.2.2.2.2.2.2.1
        have sf := frozen0 12 hcc
        refine ord_put rfl rfl rfl rfl ?_ ?_ (fun h => absurd (by simp) h) ?_
        rotate_left
        · go_simp; with_reducible rfl
        clear sc sf hcc
        have hNa := hNt.acked (.slice Aa (makeB N).length ca)
        iterate 2
          refine ord_pure rfl rfl rfl rfl rfl (fun _ _ _ _ h => h) ?_ ?_ ?_ ?_ ?_
          rotate_left 2
          · intro w'; go_simp; with_reducible rfl
          · simp only [Act.put, List.setIfInBounds_toArray, List.set_cons_zero, List.set_cons_succ]; rfl
        have hcc := hNa.cell
        have sc := (cells15 hcc).2.2.2.2.2.2.2.2.2.2.2.2.2.1
        have sf := frozen0 13 hcc
        refine ord_put rfl rfl rfl rfl ?_ ?_ (fun h => absurd (by simp) h) ?_
        rotate_left
        · go_simp; with_reducible rfl
        clear sc sf hcc
        refine ord_nil ?_
        have hfin := (hNa.tries (.slice (some ⟨wd.drew.heap.size, 0, none⟩) N N)).done HOK.out HRN.out HNE.out (own_keep (own_keep hoA (keep_put g 12 _ _) (fun k hk e => by have := hbA k hk; omega)) (keep_put g 13 _ _) (fun k hk e => by have := hbA k hk; omega)) (own_base0 (own_keep (own_keep (own_keep hot hg9 (fun _ _ h => h)) (keep_put g 12 _ _) (fun k hk e => by have := (hot.lt k hk).1; omega)) (keep_put g 13 _ _) (fun k hk e => by have := (hot.lt k hk).1; omega))) (fun e => by have h9 : wt.heap.size ≤ wd.drew.heap.size := hbA _ e; omega) (fun k hk => by have := hbA k hk; omega) (B := wd.heap.size) (by omega) hgB hB4
        obtain ⟨p, F, G, hS, hgw, hsf, hgk⟩ := hfin
        have HS := Lib.hid hS
        have HGW := Lib.hid hgw
        have HSF := Lib.hid hsf
        have HGK := Lib.hid hgk
        clear hS hgw hsf hgk hg9 hgt hmk hot hoA hgl hB4 hgB HN
        go_wp2
        go_ret2
        exact ⟨g, p, F, G, rfl, HS.out, HGW.out, HSF.out, HGK.out⟩
end Go.Proofs.YtfkcpaahdlkcdaaGreat
set_option linter.unusedSimpArgs false
set_option linter.unusedVariables false
namespace Go.Proofs.YtfkcpaahdlkcdaaGreat
open Go.RowKit

/-- The config that choices say. -/
theorem config_calls (k j : Int) (w : World) (hk : 0 ≤ k ∧ k ≤ 255) (hj : 0 ≤ j ∧ j ≤ 255) :
    Calls Tryz.prog 14 #[.int .u8 k, .int .u8 j] w fun e w' => e = .returned (.agg #[.int .i64 (1 + k % 5), .int .i64 (1 + k / 16), .int .i64 (1 + j % 40), .int .i64 1048576]) ∧ Grow w w' := by
  have hw1 : IntKind.i64.wrap (1 + k % 5) = 1 + k % 5 := IntWalk.i64_in _ (by omega)
  have hw2 : IntKind.i64.wrap (1 + k / 16) = 1 + k / 16 := IntWalk.i64_in _ (by omega)
  have hw3 : IntKind.i64.wrap (1 + j % 40) = 1 + j % 40 := IntWalk.i64_in _ (by omega)
  have hb1 : 0 ≤ k % 5 ∧ k % 5 ≤ 4 := by omega
  have hb2 : 0 ≤ k / 16 ∧ k / 16 ≤ 15 := by omega
  have hb3 : 0 ≤ j % 40 ∧ j % 40 ≤ 39 := by omega
  obtain ⟨k0, k1⟩ := hk
  obtain ⟨j0, j1⟩ := hj
  go_enter Tryz.func14, Tryz.ntmps14
  go_wp2
  refine bodyPost_ret (v := .agg #[.int .i64 (1 + k % 5), .int .i64 (1 + k / 16), .int .i64 (1 + j % 40), .int .i64 1048576]) ?_ rfl ⟨rfl, (Keep.refl NoB w).alloc _⟩
  rw [results_cell1 rfl]; go_simp
theorem config_ok (k j : Int) (hk : 0 ≤ k ∧ k ≤ 255) (hj : 0 ≤ j ∧ j ≤ 255) : OkC (1 + k % 5) (1 + k / 16) (1 + j % 40) 1048576 := by constructor <;> omega

theorem gcells_get : ∀ (rows : List GRow) (i j : Nat) (h : i < rows.length), j < 7 → (gcells rows)[7 * i + j]? = (rows[i].1.cs rows[i].2.1 rows[i].2.2)[j]?
  | r :: rs, 0, j, h, hj => by
    have hl : (r.1.cs r.2.1 r.2.2).length = 7 := rfl
    show (r.1.cs r.2.1 r.2.2 ++ gcells rs)[7 * 0 + j]? = _
    rw [List.getElem?_append_left (by omega)]
    simp
  | r :: rs, i + 1, j, h, hj => by
    have hl : (r.1.cs r.2.1 r.2.2).length = 7 := rfl
    show (r.1.cs r.2.1 r.2.2 ++ gcells rs)[7 * (i + 1) + j]? = _
    rw [List.getElem?_append_right (by omega), hl, show 7 * (i + 1) + j - 7 = 7 * i + j from by omega]
    exact gcells_get rs i j (by simpa using h) hj
/-- The cells of a row's datagram. -/
theorem GOut.at_ {base : Nat} {rows : List GRow} {A : Option Addr} {c : Nat} {Gr : Nat → Prop} {w : World} (h : GOut base rows (.slice A rows.length c) Gr w) (i : Nat) (hi : i < rows.length) :
    ∃ r, A = some ⟨r, 0, none⟩ ∧ w.cell? ⟨r, 7 * i, none⟩ = some (.int .i64 rows[i].1.kind) ∧ w.cell? ⟨r, 7 * i + 1, none⟩ = some (.int .u64 rows[i].1.session) ∧ w.cell? ⟨r, 7 * i + 2, none⟩ = some (.int .i64 rows[i].1.index) ∧ w.cell? ⟨r, 7 * i + 3, none⟩ = some (.int .i64 rows[i].1.of) ∧ w.cell? ⟨r, 7 * i + 4, none⟩ = some (.int .u32 (rows[i].1.sum : Nat)) ∧ w.cell? ⟨r, 7 * i + 5, none⟩ = some rows[i].2.1 ∧ w.cell? ⟨r, 7 * i + 6, none⟩ = some rows[i].2.2 := by
  obtain ⟨r, c2, e, _, _, hcs⟩ := own_cells h.own (by omega)
  injection e with e1
  refine ⟨r, e1, ?_⟩
  have hq : ∀ j u, j < 7 → (rows[i].1.cs rows[i].2.1 rows[i].2.2)[j]? = some u → w.cell? ⟨r, 7 * i + j, none⟩ = some u := fun j u hj hu => by
    have := hcs (7 * i + j) u (by rw [gcells_get rows i j hi hj]; exact hu)
    simpa using this
  exact ⟨hq 0 _ (by omega) rfl, hq 1 _ (by omega) rfl, hq 2 _ (by omega) rfl, hq 3 _ (by omega) rfl, hq 4 _ (by omega) rfl, hq 5 _ (by omega) rfl, hq 6 _ (by omega) rfl⟩
theorem DueOf.none {l ds : List KT} {now : Int} (h : DueOf l now ds) (hl : ∀ x, x ∈ l → now < x.2) : ds = [] := by
  cases ds with
  | nil => rfl
  | cons x r => have := (h.mem x).1 (List.mem_cons_self ..); have := hl x this.1; omega
theorem DueOf.one {ds : List KT} {now : Int} {x : KT} (h : DueOf [x] now ds) (hx : x.2 ≤ now) : ds = [x] := by
  refine h.unique ⟨by simp, by simp [ND], fun y => ?_, ?_⟩
  · constructor
    · intro hy; have := List.mem_singleton.1 hy; subst this; exact ⟨hy, hx⟩
    · exact fun hy => hy.1
  · have : decide (now < x.2) = false := by simpa using hx
    simp [restL, List.filter_cons, this]

def kD : Snd := newD 5 [[0]] 1 1 3 0
def kD1 : Snd := (tickL 0 [(0, 0)] { openD 0 kD with tm := restL (openD 0 kD).tm 0 } []).1
def kD2 : Snd := (tickL 0 [] { openD 0 kD1 with tm := restL (openD 0 kD1).tm 0 } []).1
theorem k_check : checkP [[0]] = 0 := by decide +kernel
theorem k_check2 : checkP [] = 1 := by decide +kernel
theorem k_tm : (openD 0 kD).tm = [(0, 0)] := by decide +kernel
theorem k_out : (tickL 0 [(0, 0)] { openD 0 kD with tm := restL (openD 0 kD).tm 0 } []).2.map (·.kind) = [1] := by decide +kernel
theorem k_ph1 : kD1.phase = 1 := by decide +kernel
theorem k_tm1 : (openD 0 kD1).tm = [(0, 1)] := by decide +kernel
theorem k_out2 : (tickL 0 [] { openD 0 kD1 with tm := restL (openD 0 kD1).tm 0 } []).2.map (·.kind) = [] := by decide +kernel
theorem k_ph2 : kD2.phase = 1 := by decide +kernel
end Go.Proofs.YtfkcpaahdlkcdaaGreat
set_option linter.unusedSimpArgs false
set_option linter.unusedVariables false
namespace Go.Proofs.YtfkcpaahdlkcdaaGreat
open Go.RowKit

theorem st_0 (a b c d : Int) (w : World) : (Instr.field 48 (.agg #[.int .i64 a, .int .u16 b, .int .i64 c, .int .i64 d]) 0).run Tryz.prog w = .ok (.int .i64 a) w := by kernel_rfl
theorem st_1 (a b c d : Int) (w : World) : (Instr.field 48 (.agg #[.int .i64 a, .int .u16 b, .int .i64 c, .int .i64 d]) 1).run Tryz.prog w = .ok (.int .u16 b) w := by kernel_rfl
theorem st_2 (a b c d : Int) (w : World) : (Instr.field 48 (.agg #[.int .i64 a, .int .u16 b, .int .i64 c, .int .i64 d]) 2).run Tryz.prog w = .ok (.int .i64 c) w := by kernel_rfl
theorem st_3 (a b c d : Int) (w : World) : (Instr.field 48 (.agg #[.int .i64 a, .int .u16 b, .int .i64 c, .int .i64 d]) 3).run Tryz.prog w = .ok (.int .i64 d) w := by kernel_rfl
theorem OkA.one : OkA [[0]] := ⟨by decide, by decide, by decide⟩
theorem OkA.nil : OkA [] := ⟨by decide, by decide, by decide⟩
theorem SAt.step {g : Nat} {p p' : SP} {Fq Fq' : Nat → Prop} {W w w' : World} (h1 : Grow W w) (h2 : ∀ k, SF g p.rt Fq k → W.heap.size ≤ k) (hK : Keep (SF g p.rt Fq) w w') (hG : Grew Fq Fq' w) (hr : p'.rt = p.rt) : Grow W w' ∧ ∀ k, SF g p'.rt Fq' k → W.heap.size ≤ k := by
  refine ⟨h1.trans hK (fun i hi => .inr (h2 i hi)), fun k hk => ?_⟩
  rcases hk with e | e | e
  · exact h2 k (.inl e)
  · rw [hr] at e; exact h2 k (.inr (.inl e))
  · rcases hG k e with e | e
    · exact h2 k (.inr (.inr e))
    · have := h1.size; omega
set_option maxRecDepth 100000 in
set_option maxHeartbeats 4000000 in
theorem known_true (w : World) : Calls Tryz.prog 13 #[] w fun e w' => e = .returned (.bool true) ∧ Grow w w' := by
  have hconf : OkC 1 1 3 0 := by constructor <;> omega
  have ha1 := (Keep.refl NoB w).alloc (.cells #[.int .u64 0] 22)
  have ha2 := ha1.alloc (.cells #[.slice (some ⟨w.heap.size, 0, none⟩) 1 1] 111)
  have hh := heap_two w (.cells #[.int .u64 0] 22) (.cells #[.slice (some ⟨w.heap.size, 0, none⟩) 1 1] 111)
  have hR : RowsR .u64 [[0]] (.slice (some ⟨w.heap.size + 1, 0, none⟩) ([[0]] : List (List Int)).length 1) ((w.alloc (.cells #[.int .u64 0] 22)).alloc (.cells #[.slice (some ⟨w.heap.size, 0, none⟩) 1 1] 111)) := by
    refine ⟨_, _, rfl, fun i hi => ?_⟩
    obtain rfl : i = 0 := by simpa using hi
    exact ⟨_, _, _, rfl, cell0 hh.2.1, SliceR.of_block (cs := #[.int .u64 0]) hh.1 (Nat.le_refl _) rfl⟩
  have HC := Lib.hid (snew_calls 5 (by omega) (by omega) [[0]] OkA.one k_check hconf _ 1 _ hR)
  have HG := Lib.hid ha2
  clear ha1 ha2 hh hR
  go_enter Tryz.func13, Tryz.ntmps13
  go_wp2_with fail
  refine HC.out.mono ?_
  rintro e w1 ⟨g, p, Fq, G, rfl, hS, hg, hsf, _⟩
  replace HG := Lib.hid (HG.out.grow hg)
  have HSF : Hid (∀ k, SF g p.rt Fq k → w.heap.size ≤ k) := Lib.hid (fun k hk => by have := hsf k hk; simp at this; omega)
  have HS := Lib.hid (show SAt g p kD Fq G w1 from hS)
  clear hS hg hsf HC
  go_wp2_with fail
  refine (tick_calls HS.out rfl 0 (by omega) (by omega)).mono ?_
  rintro e w2 ⟨A2, c2, rows, Gr, p2, F2, ds, rfl, hdue, hrt, hS, hrows, hout, hK, hG, hdis⟩
  rw [k_tm] at hdue
  obtain rfl := hdue.one (Int.le_refl 0)
  have hstep := SAt.step HG.out HSF.out hK hG hrt
  replace HG := Lib.hid hstep.1
  replace HSF := Lib.hid hstep.2
  replace HS := Lib.hid (show SAt g p2 kD1 F2 G w2 from hS)
  have hl : rows.length = 1 := by
    have := congrArg List.length hrows
    have h2 := congrArg List.length k_out
    simp only [List.length_map] at this h2
    rw [this, h2]; rfl
  obtain ⟨r2, hA2, q0, q9⟩ := hout.at_ 0 (by omega)
  clear q9
  have hk1 : rows[0].1.kind = 1 := by
    have h2 := k_out
    rw [← hrows] at h2
    match rows, hl, h2 with
    | [x], _, h2 => simpa using h2
  rw [hk1] at q0
  simp only [Nat.mul_zero] at q0
  rw [hA2]
  have HX : Hid (¬ SF g p2.rt F2 r2 ∧ r2 < w2.heap.size) := Lib.hid ⟨by rw [hrt]; exact hdis r2 (.inl (by rw [hA2]; rfl)), hout.lt r2 (.inl (by rw [hA2]; rfl))⟩
  have HQ := Lib.hid q0
  rw [hl]
  clear hS hdue hrt hrows hout hK hG hdis hstep hl hA2 hk1 q0
  go_wp2_with fail
  refine (tick_calls HS.out k_ph1 0 (by omega) (by omega)).mono ?_
  rintro e w3 ⟨A3, c3, rows3, Gr3, p3, F3, ds, rfl, hdue, hrt, hS, hrows, hout, hK, hG, hdis⟩
  rw [k_tm1] at hdue
  obtain rfl := hdue.none (fun x hx => by have := List.mem_singleton.1 hx; subst this; show (0 : Int) < 1; omega)
  have hstep := SAt.step HG.out HSF.out hK hG hrt
  replace HQ := Lib.hid (hK.cell HQ.out HX.out.1)
  replace HG := Lib.hid hstep.1
  replace HSF := Lib.hid hstep.2
  replace HS := Lib.hid (show SAt g p3 kD2 F3 G w3 from hS)
  have hl : rows3.length = 0 := by
    have := congrArg List.length hrows
    have h2 := congrArg List.length k_out2
    simp only [List.length_map] at this h2
    rw [this, h2]; rfl
  rw [hl]
  clear hS hdue hrt hrows hout hK hG hdis hstep hl HX
  go_wp2_with fail
  refine (snew_err 5 [] OkA.nil (by rw [k_check2]; decide) hconf none 0 w3 ⟨none, 0, rfl, fun i hi => by simp at hi⟩).mono ?_
  rintro e w4 ⟨rfl, hg⟩
  rw [k_check2]
  replace HQ := Lib.hid (hg.cell HQ.out (fun h => h))
  replace HG := Lib.hid (HG.out.grow hg)
  replace HS := Lib.hid (HS.out.grow hg)
  have q0 := HQ.out
  clear hg
  go_wp2_with fail
  refine (status_calls HS.out).mono ?_
  rintro e w5 ⟨rfl, hg⟩
  rw [k_ph2]
  have hst := st_0
  replace HG := Lib.hid (HG.out.grow hg)
  clear hg
  go_wp2
  go_ret
  exact ⟨rfl, HG.out⟩
end Go.Proofs.YtfkcpaahdlkcdaaGreat
set_option linter.unusedSimpArgs false
set_option linter.unusedVariables false
namespace Go.Proofs.YtfkcpaahdlkcdaaGreat
open Go.RowKit

theorem ret_i {k : IntKind} {a b : Int} (h : a = b) : Ending.returned (.int k a) = .returned (.int k b) := by rw [h]
theorem sg30_lo {x : Int} (h : x < 536870912) : x = sg30 x := by unfold sg30; rw [if_pos h]
theorem sg30_hi {x : Int} (h : 536870912 ≤ x) : x - 536870912 - 536870912 = sg30 x := by unfold sg30; rw [if_neg (by omega)]; omega
theorem pow_bd {k n : Nat} (h : k ≤ n) : (1 : Int) ≤ 2 ^ k ∧ (2 : Int) ^ k ≤ 2 ^ n := by
  constructor
  · have := Nat.one_le_two_pow (n := k); exact_mod_cast this
  · have := Nat.pow_le_pow_right (n := 2) (by omega) h; exact_mod_cast this
theorem div_half (x : Int) (k : Nat) : x / 2 ^ k / 2 = x / 2 ^ (k + 1) := by
  rw [Int.pow_succ, Int.ediv_ediv_of_nonneg]
  exact Int.le_of_lt (Int.pow_pos (by omega))
set_option maxRecDepth 100000 in
theorem rbits_calls (x : Int) (f n : Nat) (w : World) (hx : 0 ≤ x) (hx2 : x ≤ 18446744073709551615) (hf : f ≤ 63) (hn : n ≤ 63) :
    Calls Tryz.prog 199 #[.int .u64 x, .int .i64 f, .int .i64 n] w fun e w' => e = .returned (.int .u64 (x / 2 ^ f % 2 ^ n)) ∧ w = w' := by
  go_enter Tryz.func199, Tryz.ntmps199
  go_wp2
  go_loop [0, 7] (fun a i => ∃ k : Nat, k ≤ f ∧ i = .int .i64 k ∧ a = .int .u64 (x / 2 ^ k)) (fun _ i => f - (intOf i).toNat)
  case atStart => exact ⟨0, by omega, rfl, by simp⟩
  case round =>
    obtain ⟨k, hk, rfl, rfl⟩ := hrel
    have hd := div_half x k
    have h0 : 0 ≤ x / 2 ^ k := Int.ediv_nonneg hx (Int.le_of_lt (Int.pow_pos (by omega)))
    have h1 : x / 2 ^ k ≤ 18446744073709551615 := Int.le_trans (Int.ediv_le_self _ hx) hx2
    obtain ⟨y, hy⟩ : ∃ y, x / 2 ^ k = y := ⟨_, rfl⟩
    rw [hy] at hd h0 h1 ⊢
    have HD := Lib.hid hd
    have HY := Lib.hid hy
    clear hd hy
    by_cases hlt : k < f
    · have hlt' : (k : Int) < f := by omega
      have hw : IntKind.i64.wrap ((k : Int) + 1) = (k : Int) + 1 := IntWalk.i64_in _ (by omega)
      go_wp2
      go_round
      case rel => exact ⟨k + 1, by omega, by go_num, by rw [← HD.out]⟩
      case measure => simp [intOf]; omega
    · obtain rfl : k = f := by omega
      have hlt' : ¬ ((k : Int) < k) := by omega
      go_wp2
      go_loop [8, 9] (fun a i => ∃ j : Nat, j ≤ n ∧ i = .int .i64 j ∧ a = .int .u64 (2 ^ j)) (fun _ i => n - (intOf i).toNat)
      case atStart => exact ⟨0, by omega, rfl, rfl⟩
      case round =>
        obtain ⟨j, hj, rfl, rfl⟩ := hrel
        have hp := pow_bd (k := j) (n := 63) (by omega)
        have hp2 := pow_bd (k := n) (n := 63) (by omega)
        have hps : (2 : Int) ^ (j + 1) = 2 * 2 ^ j := by rw [Int.pow_succ, Int.mul_comm]
        have h63 : (2 : Int) ^ 63 = 9223372036854775808 := by decide
        rw [h63] at hp hp2
        obtain ⟨z, hz⟩ : ∃ z : Int, 2 ^ j = z := ⟨_, rfl⟩
        rw [hz] at hp hps ⊢
        have HPS := Lib.hid hps
        have HZ := Lib.hid hz
        clear hps hz h63
        by_cases hlt2 : j < n
        · have hlt2' : (j : Int) < n := by omega
          have hw : IntKind.i64.wrap ((j : Int) + 1) = (j : Int) + 1 := IntWalk.i64_in _ (by omega)
          have hpl := pow_bd (k := j + 1) (n := 63) (by omega)
          have hw2 : IntKind.u64.wrap (2 * z) = 2 * z := IntWalk.u64_in _ (by rw [HPS.out] at hpl; omega)
          clear hpl
          go_wp2
          go_round
          case rel => exact ⟨j + 1, by omega, by go_num, by rw [← HPS.out]⟩
          case measure => simp [intOf]; omega
        · obtain rfl : j = n := by omega
          have hlt2' : ¬ ((j : Int) < j) := by omega
          have hz0 : z ≠ 0 := by omega
          have hz1 : 1 ≤ z := hp.1
          clear hp hp2
          go_wp2
          go_ret
          exact ⟨ret_i (by rw [HY.out, HZ.out]), rfl⟩
set_option maxRecDepth 100000 in
theorem rsigned_calls (x : Int) (w : World) (hx : 0 ≤ x) (hx2 : x < 1073741824) :
    Calls Tryz.prog 200 #[.int .u64 x, .int .i64 30] w fun e w' => e = .returned (.int .i64 (sg30 x)) ∧ w = w' := by
  go_enter Tryz.func200, Tryz.ntmps200
  go_wp2
  go_loop [5, 6] (fun a i => ∃ j : Nat, j ≤ 29 ∧ i = .int .i64 (j + 1 : Nat) ∧ a = .int .i64 (2 ^ j)) (fun _ i => 30 - (intOf i).toNat)
  case atStart => exact ⟨0, by omega, rfl, rfl⟩
  case round =>
    obtain ⟨j, hj, rfl, rfl⟩ := hrel
    have hp := pow_bd (k := j) (n := 29) (by omega)
    have hps : (2 : Int) ^ (j + 1) = 2 * 2 ^ j := by rw [Int.pow_succ, Int.mul_comm]
    have h29 : (2 : Int) ^ 29 = 536870912 := by decide
    rw [h29] at hp
    have h29' : j = 29 → (2 : Int) ^ j = 536870912 := fun e => by rw [e]; exact h29
    obtain ⟨z, hz⟩ : ∃ z : Int, 2 ^ j = z := ⟨_, rfl⟩
    rw [hz] at hp hps h29' ⊢
    have HPS := Lib.hid hps
    have H29 := Lib.hid h29'
    clear hps hz h29 h29'
    by_cases hlt : j < 29
    · have hlt' : ((j + 1 : Nat) : Int) < 30 := by omega
      have hw : IntKind.i64.wrap (((j + 1 : Nat) : Int) + 1) = ((j + 1 : Nat) : Int) + 1 := IntWalk.i64_in _ (by omega)
      have hw2 : IntKind.i64.wrap (2 * z) = 2 * z := IntWalk.i64_in _ (by omega)
      obtain ⟨j1, hj1⟩ : ∃ j1, j + 1 = j1 := ⟨_, rfl⟩
      rw [hj1] at hlt' hw ⊢
      have HJ := Lib.hid hj1
      clear hj1
      go_wp2
      go_round
      case rel => exact ⟨j + 1, by omega, by rw [HJ.out]; go_num, by rw [← HPS.out]⟩
      case measure => simp [intOf]; have := HJ.out; omega
    · obtain rfl : j = 29 := by omega
      have hz := H29.out rfl
      subst hz
      clear H29 HPS hp hj hlt
      by_cases h5 : x < 536870912
      · have hc : x % 1073741824 = x := by omega
        have h5' : ¬ 536870912 ≤ x := by omega
        go_wp2
        go_ret
        exact ⟨ret_i (sg30_lo h5), rfl⟩
      · have hc : x % 1073741824 = x := by omega
        have h5' : 536870912 ≤ x := by omega
        go_wp2
        go_ret
        exact ⟨ret_i (sg30_hi h5'), rfl⟩
end Go.Proofs.YtfkcpaahdlkcdaaGreat
set_option linter.unusedSimpArgs false
set_option linter.unusedVariables false
namespace Go.Proofs.YtfkcpaahdlkcdaaGreat
open Go.RowKit

theorem rb_calls (x : Int) (f n : Nat) (F N : Int) (w : World) (hx : 0 ≤ x) (hx2 : x ≤ 18446744073709551615) (hf : f ≤ 63) (hn : n ≤ 63) (hF : (2 : Int) ^ f = F) (hN : (2 : Int) ^ n = N) :
    Calls Tryz.prog 199 #[.int .u64 x, .int .i64 f, .int .i64 n] w fun e w' => e = .returned (.int .u64 (x / F % N)) ∧ w = w' := by
  subst hF hN
  exact rbits_calls x f n w hx hx2 hf hn
/-- What the reference reads of a pointer. -/
def RDecPost (x : Int) (w : World) (e : Ending) (w' : World) : Prop := e = .returned (.tuple #[.agg #[.int .i64 (ptrDec x).1.kind, .int .i64 (ptrDec x).1.off, .int .i64 (ptrDec x).1.data, .int .i64 (ptrDec x).1.ptrs, .int .i64 (ptrDec x).1.size, .int .i64 (ptrDec x).1.count, .int .i64 (ptrDec x).1.seg, .bool (ptrDec x).1.dbl], .int .i64 (ptrDec x).2]) ∧ Grow w w'
set_option maxRecDepth 100000 in
theorem rdec_nil (w : World) : Calls Tryz.prog 129 #[.int .u64 0] w (RDecPost 0 w) := by
  go_enter Tryz.func129, Tryz.ntmps129
  go_wp2
  refine bodyPost_ret (v := .tuple #[.agg #[.int .i64 0, .int .i64 0, .int .i64 0, .int .i64 0, .int .i64 0, .int .i64 0, .int .i64 0, .bool false], .int .i64 0]) ?_ rfl ⟨rfl, (Keep.refl NoB _).alloc _⟩
  rw [results_cell_tmp rfl]; go_simp
set_option maxRecDepth 100000 in
theorem rdec_struct (x : Int) (w : World) (hx : 0 ≤ x) (hx2 : x ≤ 18446744073709551615) (h0 : ¬ x = 0) (hm : x % 4 = 0) : Calls Tryz.prog 129 #[.int .u64 x] w (RDecPost x w) := by
  have h0b : (x == 0) = false := beq_eq_false_iff_ne.2 h0
  have m0 : (x % 4 == 0) = true := by rw [beq_iff_eq]; omega
  have m1 : (x % 4 == 1) = false := by rw [beq_eq_false_iff_ne]; omega
  have m2 : (x % 4 == 2) = false := by rw [beq_eq_false_iff_ne]; omega
  have HE : Hid (ptrDec x = (⟨1, sg30 (x / 4 % 1073741824), x / 4294967296 % 65536, x / 281474976710656 % 65536, 0, 0, 0, false⟩, 0)) := Lib.hid (by unfold ptrDec; rw [if_neg h0, if_pos hm])
  clear hm h0
  go_enter Tryz.func129, Tryz.ntmps129
  go_wp2_with fail
  refine (rb_calls x 2 30 4 1073741824 _ hx hx2 (by omega) (by omega) (by decide) (by decide)).mono ?_
  rintro e w1 ⟨rfl, rfl⟩
  go_wp2_with fail
  refine (rsigned_calls (x / 4 % 1073741824) _ (by omega) (by omega)).mono ?_
  rintro e w2 ⟨rfl, rfl⟩
  go_wp2_with fail
  refine (rb_calls x 32 16 4294967296 65536 _ hx hx2 (by omega) (by omega) (by decide) (by decide)).mono ?_
  rintro e w3 ⟨rfl, rfl⟩
  go_wp2_with fail
  refine (rb_calls x 48 16 281474976710656 65536 _ hx hx2 (by omega) (by omega) (by decide) (by decide)).mono ?_
  rintro e w4 ⟨rfl, rfl⟩
  go_wp2
  refine bodyPost_ret (v := .tuple #[.agg #[.int .i64 1, .int .i64 (sg30 (x / 4 % 1073741824)), .int .i64 (x / 4294967296 % 65536), .int .i64 (x / 281474976710656 % 65536), .int .i64 0, .int .i64 0, .int .i64 0, .bool false], .int .i64 0]) ?_ rfl ⟨?_, (Keep.refl NoB _).alloc _⟩
  · rw [results_cell_tmp rfl]; go_simp
  · rw [HE.out]
set_option maxRecDepth 100000 in
theorem rdec_list (x : Int) (w : World) (hx : 0 ≤ x) (hx2 : x ≤ 18446744073709551615) (h0 : ¬ x = 0) (hm : x % 4 = 1) : Calls Tryz.prog 129 #[.int .u64 x] w (RDecPost x w) := by
  have h0b : (x == 0) = false := beq_eq_false_iff_ne.2 h0
  have m0 : (x % 4 == 0) = false := by rw [beq_eq_false_iff_ne]; omega
  have m1 : (x % 4 == 1) = true := by rw [beq_iff_eq]; omega
  have m2 : (x % 4 == 2) = false := by rw [beq_eq_false_iff_ne]; omega
  have HE : Hid (ptrDec x = (⟨2, sg30 (x / 4 % 1073741824), 0, 0, x / 4294967296 % 8, x / 34359738368 % 536870912, 0, false⟩, 0)) := Lib.hid (by unfold ptrDec; rw [if_neg h0, if_neg (by omega), if_pos hm])
  clear hm h0
  go_enter Tryz.func129, Tryz.ntmps129
  go_wp2_with fail
  refine (rb_calls x 2 30 4 1073741824 _ hx hx2 (by omega) (by omega) (by decide) (by decide)).mono ?_
  rintro e w1 ⟨rfl, rfl⟩
  go_wp2_with fail
  refine (rsigned_calls (x / 4 % 1073741824) _ (by omega) (by omega)).mono ?_
  rintro e w2 ⟨rfl, rfl⟩
  go_wp2_with fail
  refine (rb_calls x 32 3 4294967296 8 _ hx hx2 (by omega) (by omega) (by decide) (by decide)).mono ?_
  rintro e w3 ⟨rfl, rfl⟩
  go_wp2_with fail
  refine (rb_calls x 35 29 34359738368 536870912 _ hx hx2 (by omega) (by omega) (by decide) (by decide)).mono ?_
  rintro e w4 ⟨rfl, rfl⟩
  go_wp2
  refine bodyPost_ret (v := .tuple #[.agg #[.int .i64 2, .int .i64 (sg30 (x / 4 % 1073741824)), .int .i64 0, .int .i64 0, .int .i64 (x / 4294967296 % 8), .int .i64 (x / 34359738368 % 536870912), .int .i64 0, .bool false], .int .i64 0]) ?_ rfl ⟨?_, (Keep.refl NoB _).alloc _⟩
  · rw [results_cell_tmp rfl]; go_simp
  · rw [HE.out]
set_option maxRecDepth 100000 in
theorem rdec_far (x : Int) (w : World) (hx : 0 ≤ x) (hx2 : x ≤ 18446744073709551615) (h0 : ¬ x = 0) (hm : x % 4 = 2) : Calls Tryz.prog 129 #[.int .u64 x] w (RDecPost x w) := by
  have h0b : (x == 0) = false := beq_eq_false_iff_ne.2 h0
  have m0 : (x % 4 == 0) = false := by rw [beq_eq_false_iff_ne]; omega
  have m1 : (x % 4 == 1) = false := by rw [beq_eq_false_iff_ne]; omega
  have m2 : (x % 4 == 2) = true := by rw [beq_iff_eq]; omega
  have HE : Hid (ptrDec x = (⟨3, x / 8 % 536870912, 0, 0, 0, 0, x / 4294967296 % 4294967296, (x / 4 % 2 == 1)⟩, 0)) := Lib.hid (by unfold ptrDec; rw [if_neg h0, if_neg (by omega), if_neg (by omega), if_pos hm])
  clear hm h0
  go_enter Tryz.func129, Tryz.ntmps129
  go_wp2_with fail
  refine (rb_calls x 2 30 4 1073741824 _ hx hx2 (by omega) (by omega) (by decide) (by decide)).mono ?_
  rintro e w1 ⟨rfl, rfl⟩
  go_wp2_with fail
  refine (rsigned_calls (x / 4 % 1073741824) _ (by omega) (by omega)).mono ?_
  rintro e w2 ⟨rfl, rfl⟩
  go_wp2_with fail
  refine (rb_calls x 3 29 8 536870912 _ hx hx2 (by omega) (by omega) (by decide) (by decide)).mono ?_
  rintro e w3 ⟨rfl, rfl⟩
  go_wp2_with fail
  refine (rb_calls x 32 32 4294967296 4294967296 _ hx hx2 (by omega) (by omega) (by decide) (by decide)).mono ?_
  rintro e w4 ⟨rfl, rfl⟩
  go_wp2_with fail
  refine (rb_calls x 2 1 4 2 _ hx hx2 (by omega) (by omega) (by decide) (by decide)).mono ?_
  rintro e w5 ⟨rfl, rfl⟩
  go_wp2
  refine bodyPost_ret (v := .tuple #[.agg #[.int .i64 3, .int .i64 (x / 8 % 536870912), .int .i64 0, .int .i64 0, .int .i64 0, .int .i64 0, .int .i64 (x / 4294967296 % 4294967296), .bool (x / 4 % 2 == 1)], .int .i64 0]) ?_ rfl ⟨?_, (Keep.refl NoB _).alloc _⟩
  · rw [results_cell_tmp rfl]; go_simp
  · rw [HE.out]
set_option maxRecDepth 100000 in
theorem rdec_bad (x : Int) (w : World) (hx : 0 ≤ x) (hx2 : x ≤ 18446744073709551615) (h0 : ¬ x = 0) (hm : x % 4 = 3) : Calls Tryz.prog 129 #[.int .u64 x] w (RDecPost x w) := by
  have h0b : (x == 0) = false := beq_eq_false_iff_ne.2 h0
  have m0 : (x % 4 == 0) = false := by rw [beq_eq_false_iff_ne]; omega
  have m1 : (x % 4 == 1) = false := by rw [beq_eq_false_iff_ne]; omega
  have m2 : (x % 4 == 2) = false := by rw [beq_eq_false_iff_ne]; omega
  have HE : Hid (ptrDec x = (pt0, 23)) := Lib.hid (by unfold ptrDec; rw [if_neg h0, if_neg (by omega), if_neg (by omega), if_neg (by omega)])
  clear hm h0
  go_enter Tryz.func129, Tryz.ntmps129
  go_wp2_with fail
  refine (rb_calls x 2 30 4 1073741824 _ hx hx2 (by omega) (by omega) (by decide) (by decide)).mono ?_
  rintro e w1 ⟨rfl, rfl⟩
  go_wp2_with fail
  refine (rsigned_calls (x / 4 % 1073741824) _ (by omega) (by omega)).mono ?_
  rintro e w2 ⟨rfl, rfl⟩
  go_wp2
  refine bodyPost_ret (v := .tuple #[.agg #[.int .i64 0, .int .i64 0, .int .i64 0, .int .i64 0, .int .i64 0, .int .i64 0, .int .i64 0, .bool false], .int .i64 23]) ?_ rfl ⟨?_, (Keep.refl NoB _).alloc _⟩
  · rw [results_cell_tmp rfl]; go_simp
  · rw [HE.out]; rfl
theorem rdec_calls (x : Int) (w : World) (hx : 0 ≤ x) (hx2 : x ≤ 18446744073709551615) : Calls Tryz.prog 129 #[.int .u64 x] w (RDecPost x w) := by
  by_cases h0 : x = 0
  · subst h0; exact rdec_nil w
  · rcases (by omega : x % 4 = 0 ∨ x % 4 = 1 ∨ x % 4 = 2 ∨ x % 4 = 3) with h | h | h | h
    · exact rdec_struct x w hx hx2 h0 h
    · exact rdec_list x w hx hx2 h0 h
    · exact rdec_far x w hx hx2 h0 h
    · exact rdec_bad x w hx hx2 h0 h
theorem u64_bd (x : Int) : 0 ≤ IntKind.u64.wrap x ∧ IntKind.u64.wrap x ≤ 18446744073709551615 := by
  have : IntKind.u64.wrap x = x % 18446744073709551616 := rfl
  omega
theorem rlow_calls (x : Int) (n : Nat) (w : World) (hn : n ≤ 63) :
    Calls Tryz.prog 128 #[.int .i64 x, .int .i64 n] w fun e w' => e = .returned (.int .u64 (IntKind.u64.wrap x % 2 ^ n)) ∧ w = w' := by
  obtain ⟨y, hy⟩ : ∃ y, IntKind.u64.wrap x = y := ⟨_, rfl⟩
  have hb := u64_bd x
  rw [hy] at hb ⊢
  go_enter Tryz.func128, Tryz.ntmps128
  go_wp2_with fail
  try rw [hy]
  have hr := rbits_calls y 0 n w hb.1 hb.2 (by omega) hn
  refine hr.mono ?_
  rintro e w1 ⟨rfl, rfl⟩
  clear hr hy
  go_wp2
  go_ret
  exact ⟨ret_i (by simp), rfl⟩
end Go.Proofs.YtfkcpaahdlkcdaaGreat

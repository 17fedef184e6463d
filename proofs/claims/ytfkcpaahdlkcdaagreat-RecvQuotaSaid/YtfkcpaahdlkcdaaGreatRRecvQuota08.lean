import Derived.Test.YtfkcpaahdlkcdaaGreatRRecvQuota07
set_option linter.unusedSimpArgs false
set_option linter.unusedVariables false
set_option maxRecDepth 100000
set_option maxHeartbeats 16000000
namespace Go.Proofs.YtfkcpaahdlkcdaaGreat
open Go.RowKit
def EncPost (w : World) (e : Ending) (w' : World) : Prop := ∃ x r : Int, e = .returned (.tuple #[.int .u64 x, .int .i64 r]) ∧ 0 ≤ x ∧ x ≤ 18446744073709551615 ∧ Grow w w'
theorem renc_none (p : Pt) (w : World) (hk : p.kind ≠ 1 ∧ p.kind ≠ 2 ∧ p.kind ≠ 3) : Calls Tryz.prog 58 #[.agg #[.int .i64 p.kind, .int .i64 p.off, .int .i64 p.data, .int .i64 p.ptrs, .int .i64 p.size, .int .i64 p.count, .int .i64 p.seg, .bool p.dbl]] w (EncPost w) := by
 have HG := LH ((Keep.refl NoB w).alloc (.cells #[.int .i64 p.kind, .int .i64 p.off, .int .i64 p.data, .int .i64 p.ptrs, .int .i64 p.size, .int .i64 p.count, .int .i64 p.seg, .bool p.dbl] 120))
 have HC := LH (heap_alloc_new w (.cells #[.int .i64 p.kind, .int .i64 p.off, .int .i64 p.data, .int .i64 p.ptrs, .int .i64 p.size, .int .i64 p.count, .int .i64 p.seg, .bool p.dbl] 120))
 have k1 : (p.kind == 1) = false := by rw [beq_eq_false_iff_ne]; omega
 have k2 : (p.kind == 2) = false := by rw [beq_eq_false_iff_ne]; omega
 have k3 : (p.kind == 3) = false := by rw [beq_eq_false_iff_ne]; omega
 clear hk
 go_enter Tryz.func58, Tryz.ntmps58
 go_wp2_with fail
 refine (rdec_calls _ _ ((⟨by omega, by omega⟩ : (0 : Int) ≤ 0 ∧ (0 : Int) ≤ 18446744073709551615)).1 ((⟨by omega, by omega⟩ : (0 : Int) ≤ 0 ∧ (0 : Int) ≤ 18446744073709551615)).2).mono ?_
 rintro e w9 ⟨rfl, hg9⟩
 replace HG := LH (HG.out.grow hg9)
 replace HC := LH (Grow.heap hg9 HC.out)
 have HXB := LH ((⟨by omega, by omega⟩ : (0 : Int) ≤ 0 ∧ (0 : Int) ≤ 18446744073709551615))
 generalize ptrDec (0) = R at hg9 ⊢
 clear hg9
 obtain ⟨z0, z1, z2, z3, z4, z5, z6, z7, zf⟩ := cells8 HC.out
 have hlt9 := (gE HC.out).1
 have hne9 : w9.heap.size ≠ w.heap.size := by omega
 have hne8 : w.heap.size ≠ w9.heap.size := by omega
 go_wp2
 all_goals
  go_ret2
  refine ⟨_, _, rfl, ?_, ?_, HG.out.alloc _⟩ <;> first | exact HXB.out.1 | exact HXB.out.2 | omega
theorem renc_struct (p : Pt) (w : World) (hk : p.kind = 1) : Calls Tryz.prog 58 #[.agg #[.int .i64 p.kind, .int .i64 p.off, .int .i64 p.data, .int .i64 p.ptrs, .int .i64 p.size, .int .i64 p.count, .int .i64 p.seg, .bool p.dbl]] w (EncPost w) := by
 have HG := LH ((Keep.refl NoB w).alloc (.cells #[.int .i64 p.kind, .int .i64 p.off, .int .i64 p.data, .int .i64 p.ptrs, .int .i64 p.size, .int .i64 p.count, .int .i64 p.seg, .bool p.dbl] 120))
 have HC := LH (heap_alloc_new w (.cells #[.int .i64 p.kind, .int .i64 p.off, .int .i64 p.data, .int .i64 p.ptrs, .int .i64 p.size, .int .i64 p.count, .int .i64 p.seg, .bool p.dbl] 120))
 have k1 : (p.kind == 1) = true := by rw [beq_iff_eq]; omega
 have k2 : (p.kind == 2) = false := by rw [beq_eq_false_iff_ne]; omega
 have k3 : (p.kind == 3) = false := by rw [beq_eq_false_iff_ne]; omega
 clear hk
 go_enter Tryz.func58, Tryz.ntmps58
 go_wp2
 generalize w.alloc (.cells #[.int .i64 p.kind, .int .i64 p.off, .int .i64 p.data, .int .i64 p.ptrs, .int .i64 p.size, .int .i64 p.count, .int .i64 p.seg, .bool p.dbl] 120) = w1 at HG HC ⊢
 generalize w.heap.size = B at HC ⊢
 obtain ⟨z0, z1, z2, z3, z4, z5, z6, z7, zf⟩ := cells8 HC.out
 refine region_ord [0, 1, 4, 5, 9, 10, 2, 3, 6, 7, 8, 11, 12, 13, 14] [2, 6, 11, 14] [1, 5, 10] [] rfl (by kernel_rfl) ?_
 refine ord_pure rfl rfl rfl rfl rfl (fun _ _ _ _ h => h) ?_ ?_ ?_ ?_ ?_
 rotate_left 2
 ·intro w'; go_simp; with_reducible rfl
 ·simp only [Act.put, pB, pC, pD]; rfl
 refine ord_read rfl rfl rfl rfl rfl (fun _ _ _ _ h => h) ?_ ?_ ?_ ?_ ?_
 rotate_left 2
 ·intro w' hg; have q := hg.cell z1 (fun h => h); go_simp; with_reducible rfl
 ·simp only [Act.put, pB, pC, pD]; rfl
 refine ord_pure rfl rfl rfl rfl rfl (fun _ _ _ _ h => h) ?_ ?_ ?_ ?_ ?_
 rotate_left 2
 ·intro w'; go_simp; with_reducible rfl
 ·simp only [Act.put, pB, pC, pD]; rfl
 refine ord_read rfl rfl rfl rfl rfl (fun _ _ _ _ h => h) ?_ ?_ ?_ ?_ ?_
 rotate_left 2
 ·intro w' hg; have q := hg.cell z2 (fun h => h); go_simp; with_reducible rfl
 ·simp only [Act.put, pB, pC, pD]; rfl
 refine ord_pure rfl rfl rfl rfl rfl (fun _ _ _ _ h => h) ?_ ?_ ?_ ?_ ?_
 rotate_left 2
 ·intro w'; go_simp; with_reducible rfl
 ·simp only [Act.put, pB, pC, pD]; rfl
 refine ord_read rfl rfl rfl rfl rfl (fun _ _ _ _ h => h) ?_ ?_ ?_ ?_ ?_
 rotate_left 2
 ·intro w' hg; have q := hg.cell z3 (fun h => h); go_simp; with_reducible rfl
 ·simp only [Act.put, pB, pC, pD]; rfl
 refine ord_call rfl rfl rfl rfl rfl Tryz.func128 rfl rfl [.int .i64 p.off, .int .i64 30] rfl ?_
 refine (rlow_calls p.off 30 _ (by omega)).mono ?_
 rintro e w' ⟨rfl, rfl⟩
 refine ⟨_, rfl, fun _ => Keep.refl _ _, ?_⟩
 simp only [Act.put, pB, pC, pD]
 refine ord_pure rfl rfl rfl rfl rfl (fun _ _ _ _ h => h) ?_ ?_ ?_ ?_ ?_
 rotate_left 2
 ·intro w'; go_simp; with_reducible rfl
 ·simp only [Act.put, pB, pC, pD]; rfl
 refine ord_call rfl rfl rfl rfl rfl Tryz.func128 rfl rfl [.int .i64 p.data, .int .i64 16] rfl ?_
 refine (rlow_calls p.data 16 _ (by omega)).mono ?_
 rintro e w' ⟨rfl, rfl⟩
 refine ⟨_, rfl, fun _ => Keep.refl _ _, ?_⟩
 simp only [Act.put, pB, pC, pD]
 iterate 2
  refine ord_pure rfl rfl rfl rfl rfl (fun _ _ _ _ h => h) ?_ ?_ ?_ ?_ ?_
  rotate_left 2
  ·intro w'; go_simp; with_reducible rfl
  ·simp only [Act.put, pB, pC, pD]; rfl
 refine ord_call rfl rfl rfl rfl rfl Tryz.func128 rfl rfl [.int .i64 p.ptrs, .int .i64 16] rfl ?_
 refine (rlow_calls p.ptrs 16 _ (by omega)).mono ?_
 rintro e w' ⟨rfl, rfl⟩
 refine ⟨_, rfl, fun _ => Keep.refl _ _, ?_⟩
 simp only [Act.put, pB, pC, pD]
 iterate 2
  refine ord_pure rfl rfl rfl rfl rfl (fun _ _ _ _ h => h) ?_ ?_ ?_ ?_ ?_
  rotate_left 2
  ·intro w'; go_simp; with_reducible rfl
  ·simp only [Act.put, pB, pC, pD]; rfl
 refine ord_set rfl rfl rfl rfl ?_ ?_ ?_ ?_ ?_
 rotate_left 2
 ·go_simp; with_reducible rfl
 ·simp only [Act.put, pB, pC, pD]; rfl
 refine ord_nil ?_
 replace HG := LH HG.out.drew
 replace HC := LH (show w1.drew.heap[_]? = _ from HC.out)
 clear z0 z1 z2 z3 z4 z5 z6 z7 zf
 generalize w1.drew = w2 at HG HC ⊢
 go_wp2_with fail
 generalize hX : 4 * (IntKind.u64.wrap p.off % 1073741824) + IntKind.u64.wrap p.data % 65536 * 4294967296 + IntKind.u64.wrap p.ptrs % 65536 * 281474976710656 = X
 have hxx : 0 ≤ X ∧ X ≤ 18446744073709551615 := by omega
 clear hX
 refine (rdec_calls _ _ (hxx).1 (hxx).2).mono ?_
 rintro e w9 ⟨rfl, hg9⟩
 replace HG := LH (HG.out.grow hg9)
 replace HC := LH (Grow.heap hg9 HC.out)
 have HXB := LH (hxx)
 generalize ptrDec (X) = R at hg9 ⊢
 clear hg9
 obtain ⟨z0, z1, z2, z3, z4, z5, z6, z7, zf⟩ := cells8 HC.out
 have hlt9 := (gE HC.out).1
 have hne9 : w9.heap.size ≠ B := by omega
 have hne8 : B ≠ w9.heap.size := by omega
 go_wp2
 all_goals
  go_ret2
  refine ⟨_, _, rfl, ?_, ?_, HG.out.alloc _⟩ <;> first | exact HXB.out.1 | exact HXB.out.2 | omega
theorem renc_list (p : Pt) (w : World) (hk : p.kind = 2) : Calls Tryz.prog 58 #[.agg #[.int .i64 p.kind, .int .i64 p.off, .int .i64 p.data, .int .i64 p.ptrs, .int .i64 p.size, .int .i64 p.count, .int .i64 p.seg, .bool p.dbl]] w (EncPost w) := by
 have HG := LH ((Keep.refl NoB w).alloc (.cells #[.int .i64 p.kind, .int .i64 p.off, .int .i64 p.data, .int .i64 p.ptrs, .int .i64 p.size, .int .i64 p.count, .int .i64 p.seg, .bool p.dbl] 120))
 have HC := LH (heap_alloc_new w (.cells #[.int .i64 p.kind, .int .i64 p.off, .int .i64 p.data, .int .i64 p.ptrs, .int .i64 p.size, .int .i64 p.count, .int .i64 p.seg, .bool p.dbl] 120))
 have k1 : (p.kind == 1) = false := by rw [beq_eq_false_iff_ne]; omega
 have k2 : (p.kind == 2) = true := by rw [beq_iff_eq]; omega
 have k3 : (p.kind == 3) = false := by rw [beq_eq_false_iff_ne]; omega
 clear hk
 go_enter Tryz.func58, Tryz.ntmps58
 go_wp2
 generalize w.alloc (.cells #[.int .i64 p.kind, .int .i64 p.off, .int .i64 p.data, .int .i64 p.ptrs, .int .i64 p.size, .int .i64 p.count, .int .i64 p.seg, .bool p.dbl] 120) = w1 at HG HC ⊢
 generalize w.heap.size = B at HC ⊢
 obtain ⟨z0, z1, z2, z3, z4, z5, z6, z7, zf⟩ := cells8 HC.out
 refine region_ord [0, 1, 5, 6, 10, 11, 2, 3, 4, 7, 8, 9, 12, 13, 14, 15] [2, 7, 12, 15] [1, 6, 11] [] rfl (by kernel_rfl) ?_
 refine ord_pure rfl rfl rfl rfl rfl (fun _ _ _ _ h => h) ?_ ?_ ?_ ?_ ?_
 rotate_left 2
 ·intro w'; go_simp; with_reducible rfl
 ·simp only [Act.put, pB, pC, pD]; rfl
 refine ord_read rfl rfl rfl rfl rfl (fun _ _ _ _ h => h) ?_ ?_ ?_ ?_ ?_
 rotate_left 2
 ·intro w' hg; have q := hg.cell z1 (fun h => h); go_simp; with_reducible rfl
 ·simp only [Act.put, pB, pC, pD]; rfl
 refine ord_pure rfl rfl rfl rfl rfl (fun _ _ _ _ h => h) ?_ ?_ ?_ ?_ ?_
 rotate_left 2
 ·intro w'; go_simp; with_reducible rfl
 ·simp only [Act.put, pB, pC, pD]; rfl
 refine ord_read rfl rfl rfl rfl rfl (fun _ _ _ _ h => h) ?_ ?_ ?_ ?_ ?_
 rotate_left 2
 ·intro w' hg; have q := hg.cell z4 (fun h => h); go_simp; with_reducible rfl
 ·simp only [Act.put, pB, pC, pD]; rfl
 refine ord_pure rfl rfl rfl rfl rfl (fun _ _ _ _ h => h) ?_ ?_ ?_ ?_ ?_
 rotate_left 2
 ·intro w'; go_simp; with_reducible rfl
 ·simp only [Act.put, pB, pC, pD]; rfl
 refine ord_read rfl rfl rfl rfl rfl (fun _ _ _ _ h => h) ?_ ?_ ?_ ?_ ?_
 rotate_left 2
 ·intro w' hg; have q := hg.cell z5 (fun h => h); go_simp; with_reducible rfl
 ·simp only [Act.put, pB, pC, pD]; rfl
 refine ord_call rfl rfl rfl rfl rfl Tryz.func128 rfl rfl [.int .i64 p.off, .int .i64 30] rfl ?_
 refine (rlow_calls p.off 30 _ (by omega)).mono ?_
 rintro e w' ⟨rfl, rfl⟩
 refine ⟨_, rfl, fun _ => Keep.refl _ _, ?_⟩
 simp only [Act.put, pB, pC, pD]
 iterate 2
  refine ord_pure rfl rfl rfl rfl rfl (fun _ _ _ _ h => h) ?_ ?_ ?_ ?_ ?_
  rotate_left 2
  ·intro w'; go_simp; with_reducible rfl
  ·simp only [Act.put, pB, pC, pD]; rfl
 refine ord_call rfl rfl rfl rfl rfl Tryz.func128 rfl rfl [.int .i64 p.size, .int .i64 3] rfl ?_
 refine (rlow_calls p.size 3 _ (by omega)).mono ?_
 rintro e w' ⟨rfl, rfl⟩
 refine ⟨_, rfl, fun _ => Keep.refl _ _, ?_⟩
 simp only [Act.put, pB, pC, pD]
 iterate 2
  refine ord_pure rfl rfl rfl rfl rfl (fun _ _ _ _ h => h) ?_ ?_ ?_ ?_ ?_
  rotate_left 2
  ·intro w'; go_simp; with_reducible rfl
  ·simp only [Act.put, pB, pC, pD]; rfl
 refine ord_call rfl rfl rfl rfl rfl Tryz.func128 rfl rfl [.int .i64 p.count, .int .i64 29] rfl ?_
 refine (rlow_calls p.count 29 _ (by omega)).mono ?_
 rintro e w' ⟨rfl, rfl⟩
 refine ⟨_, rfl, fun _ => Keep.refl _ _, ?_⟩
 simp only [Act.put, pB, pC, pD]
 iterate 2
  refine ord_pure rfl rfl rfl rfl rfl (fun _ _ _ _ h => h) ?_ ?_ ?_ ?_ ?_
  rotate_left 2
  ·intro w'; go_simp; with_reducible rfl
  ·simp only [Act.put, pB, pC, pD]; rfl
 refine ord_set rfl rfl rfl rfl ?_ ?_ ?_ ?_ ?_
 rotate_left 2
 ·go_simp; with_reducible rfl
 ·simp only [Act.put, pB, pC, pD]; rfl
 refine ord_nil ?_
 replace HG := LH HG.out.drew
 replace HC := LH (show w1.drew.heap[_]? = _ from HC.out)
 clear z0 z1 z2 z3 z4 z5 z6 z7 zf
 generalize w1.drew = w2 at HG HC ⊢
 go_wp2_with fail
 generalize hX : 1 + 4 * (IntKind.u64.wrap p.off % 1073741824) + IntKind.u64.wrap p.size % 8 * 4294967296 + IntKind.u64.wrap p.count % 536870912 * 34359738368 = X
 have hxx : 0 ≤ X ∧ X ≤ 18446744073709551615 := by omega
 clear hX
 refine (rdec_calls _ _ (hxx).1 (hxx).2).mono ?_
 rintro e w9 ⟨rfl, hg9⟩
 replace HG := LH (HG.out.grow hg9)
 replace HC := LH (Grow.heap hg9 HC.out)
 have HXB := LH (hxx)
 generalize ptrDec (X) = R at hg9 ⊢
 clear hg9
 obtain ⟨z0, z1, z2, z3, z4, z5, z6, z7, zf⟩ := cells8 HC.out
 have hlt9 := (gE HC.out).1
 have hne9 : w9.heap.size ≠ B := by omega
 have hne8 : B ≠ w9.heap.size := by omega
 go_wp2
 all_goals
  go_ret2
  refine ⟨_, _, rfl, ?_, ?_, HG.out.alloc _⟩ <;> first | exact HXB.out.1 | exact HXB.out.2 | omega
theorem renc_far0 (p : Pt) (w : World) (hk : p.kind = 3 ∧ p.dbl = false) : Calls Tryz.prog 58 #[.agg #[.int .i64 p.kind, .int .i64 p.off, .int .i64 p.data, .int .i64 p.ptrs, .int .i64 p.size, .int .i64 p.count, .int .i64 p.seg, .bool p.dbl]] w (EncPost w) := by
 have HG := LH ((Keep.refl NoB w).alloc (.cells #[.int .i64 p.kind, .int .i64 p.off, .int .i64 p.data, .int .i64 p.ptrs, .int .i64 p.size, .int .i64 p.count, .int .i64 p.seg, .bool p.dbl] 120))
 have HC := LH (heap_alloc_new w (.cells #[.int .i64 p.kind, .int .i64 p.off, .int .i64 p.data, .int .i64 p.ptrs, .int .i64 p.size, .int .i64 p.count, .int .i64 p.seg, .bool p.dbl] 120))
 have k1 : (p.kind == 1) = false := by rw [beq_eq_false_iff_ne]; omega
 have k2 : (p.kind == 2) = false := by rw [beq_eq_false_iff_ne]; omega
 have k3 : (p.kind == 3) = true := by rw [beq_iff_eq]; omega
 have HDB := LH hk.2
 clear hk
 go_enter Tryz.func58, Tryz.ntmps58
 go_wp2
 generalize w.alloc (.cells #[.int .i64 p.kind, .int .i64 p.off, .int .i64 p.data, .int .i64 p.ptrs, .int .i64 p.size, .int .i64 p.count, .int .i64 p.seg, .bool p.dbl] 120) = w1 at HG HC ⊢
 generalize w.heap.size = B at HC ⊢
 obtain ⟨z0, z1, z2, z3, z4, z5, z6, z7, zf⟩ := cells8 HC.out
 refine region_ord [0, 1, 5, 6, 2, 3, 4, 7, 8, 9, 10] [2, 7, 10] [1, 6] [] rfl (by kernel_rfl) ?_
 refine ord_pure rfl rfl rfl rfl rfl (fun _ _ _ _ h => h) ?_ ?_ ?_ ?_ ?_
 rotate_left 2
 ·intro w'; go_simp; with_reducible rfl
 ·simp only [Act.put, pB, pC, pD]; rfl
 refine ord_read rfl rfl rfl rfl rfl (fun _ _ _ _ h => h) ?_ ?_ ?_ ?_ ?_
 rotate_left 2
 ·intro w' hg; have q := hg.cell z1 (fun h => h); go_simp; with_reducible rfl
 ·simp only [Act.put, pB, pC, pD]; rfl
 refine ord_pure rfl rfl rfl rfl rfl (fun _ _ _ _ h => h) ?_ ?_ ?_ ?_ ?_
 rotate_left 2
 ·intro w'; go_simp; with_reducible rfl
 ·simp only [Act.put, pB, pC, pD]; rfl
 refine ord_read rfl rfl rfl rfl rfl (fun _ _ _ _ h => h) ?_ ?_ ?_ ?_ ?_
 rotate_left 2
 ·intro w' hg; have q := hg.cell z6 (fun h => h); go_simp; with_reducible rfl
 ·simp only [Act.put, pB, pC, pD]; rfl
 refine ord_call rfl rfl rfl rfl rfl Tryz.func128 rfl rfl [.int .i64 p.off, .int .i64 29] rfl ?_
 refine (rlow_calls p.off 29 _ (by omega)).mono ?_
 rintro e w' ⟨rfl, rfl⟩
 refine ⟨_, rfl, fun _ => Keep.refl _ _, ?_⟩
 simp only [Act.put, pB, pC, pD]
 iterate 2
  refine ord_pure rfl rfl rfl rfl rfl (fun _ _ _ _ h => h) ?_ ?_ ?_ ?_ ?_
  rotate_left 2
  ·intro w'; go_simp; with_reducible rfl
  ·simp only [Act.put, pB, pC, pD]; rfl
 refine ord_call rfl rfl rfl rfl rfl Tryz.func128 rfl rfl [.int .i64 p.seg, .int .i64 32] rfl ?_
 refine (rlow_calls p.seg 32 _ (by omega)).mono ?_
 rintro e w' ⟨rfl, rfl⟩
 refine ⟨_, rfl, fun _ => Keep.refl _ _, ?_⟩
 simp only [Act.put, pB, pC, pD]
 iterate 2
  refine ord_pure rfl rfl rfl rfl rfl (fun _ _ _ _ h => h) ?_ ?_ ?_ ?_ ?_
  rotate_left 2
  ·intro w'; go_simp; with_reducible rfl
  ·simp only [Act.put, pB, pC, pD]; rfl
 refine ord_set rfl rfl rfl rfl ?_ ?_ ?_ ?_ ?_
 rotate_left 2
 ·go_simp; with_reducible rfl
 ·simp only [Act.put, pB, pC, pD]; rfl
 refine ord_nil ?_
 replace HG := LH HG.out.drew
 replace HC := LH (show w1.drew.heap[_]? = _ from HC.out)
 clear z0 z1 z2 z3 z4 z5 z6 z7 zf
 generalize w1.drew = w2 at HG HC ⊢
 have z7 := (cells8 HC.out).2.2.2.2.2.2.2.1
 rw [HDB.out] at z7
 go_wp2_with fail
 generalize hX : 2 + 8 * (IntKind.u64.wrap p.off % 536870912) + IntKind.u64.wrap p.seg % 4294967296 * 4294967296 = X
 have hxx : 0 ≤ X ∧ X ≤ 18446744073709551615 := by omega
 clear hX
 refine (rdec_calls _ _ (hxx).1 (hxx).2).mono ?_
 rintro e w9 ⟨rfl, hg9⟩
 replace HG := LH (HG.out.grow hg9)
 replace HC := LH (Grow.heap hg9 HC.out)
 have HXB := LH (hxx)
 generalize ptrDec (X) = R at hg9 ⊢
 clear hg9
 obtain ⟨z0, z1, z2, z3, z4, z5, z6, z7, zf⟩ := cells8 HC.out
 have hlt9 := (gE HC.out).1
 have hne9 : w9.heap.size ≠ B := by omega
 have hne8 : B ≠ w9.heap.size := by omega
 go_wp2
 all_goals
  go_ret2
  refine ⟨_, _, rfl, ?_, ?_, HG.out.alloc _⟩ <;> first | exact HXB.out.1 | exact HXB.out.2 | omega
theorem renc_far1 (p : Pt) (w : World) (hk : p.kind = 3 ∧ p.dbl = true) : Calls Tryz.prog 58 #[.agg #[.int .i64 p.kind, .int .i64 p.off, .int .i64 p.data, .int .i64 p.ptrs, .int .i64 p.size, .int .i64 p.count, .int .i64 p.seg, .bool p.dbl]] w (EncPost w) := by
 have HG := LH ((Keep.refl NoB w).alloc (.cells #[.int .i64 p.kind, .int .i64 p.off, .int .i64 p.data, .int .i64 p.ptrs, .int .i64 p.size, .int .i64 p.count, .int .i64 p.seg, .bool p.dbl] 120))
 have HC := LH (heap_alloc_new w (.cells #[.int .i64 p.kind, .int .i64 p.off, .int .i64 p.data, .int .i64 p.ptrs, .int .i64 p.size, .int .i64 p.count, .int .i64 p.seg, .bool p.dbl] 120))
 have k1 : (p.kind == 1) = false := by rw [beq_eq_false_iff_ne]; omega
 have k2 : (p.kind == 2) = false := by rw [beq_eq_false_iff_ne]; omega
 have k3 : (p.kind == 3) = true := by rw [beq_iff_eq]; omega
 have HDB := LH hk.2
 clear hk
 go_enter Tryz.func58, Tryz.ntmps58
 go_wp2
 generalize w.alloc (.cells #[.int .i64 p.kind, .int .i64 p.off, .int .i64 p.data, .int .i64 p.ptrs, .int .i64 p.size, .int .i64 p.count, .int .i64 p.seg, .bool p.dbl] 120) = w1 at HG HC ⊢
 generalize w.heap.size = B at HC ⊢
 obtain ⟨z0, z1, z2, z3, z4, z5, z6, z7, zf⟩ := cells8 HC.out
 refine region_ord [0, 1, 5, 6, 2, 3, 4, 7, 8, 9, 10] [2, 7, 10] [1, 6] [] rfl (by kernel_rfl) ?_
 refine ord_pure rfl rfl rfl rfl rfl (fun _ _ _ _ h => h) ?_ ?_ ?_ ?_ ?_
 rotate_left 2
 ·intro w'; go_simp; with_reducible rfl
 ·simp only [Act.put, pB, pC, pD]; rfl
 refine ord_read rfl rfl rfl rfl rfl (fun _ _ _ _ h => h) ?_ ?_ ?_ ?_ ?_
 rotate_left 2
 ·intro w' hg; have q := hg.cell z1 (fun h => h); go_simp; with_reducible rfl
 ·simp only [Act.put, pB, pC, pD]; rfl
 refine ord_pure rfl rfl rfl rfl rfl (fun _ _ _ _ h => h) ?_ ?_ ?_ ?_ ?_
 rotate_left 2
 ·intro w'; go_simp; with_reducible rfl
 ·simp only [Act.put, pB, pC, pD]; rfl
 refine ord_read rfl rfl rfl rfl rfl (fun _ _ _ _ h => h) ?_ ?_ ?_ ?_ ?_
 rotate_left 2
 ·intro w' hg; have q := hg.cell z6 (fun h => h); go_simp; with_reducible rfl
 ·simp only [Act.put, pB, pC, pD]; rfl
 refine ord_call rfl rfl rfl rfl rfl Tryz.func128 rfl rfl [.int .i64 p.off, .int .i64 29] rfl ?_
 refine (rlow_calls p.off 29 _ (by omega)).mono ?_
 rintro e w' ⟨rfl, rfl⟩
 refine ⟨_, rfl, fun _ => Keep.refl _ _, ?_⟩
 simp only [Act.put, pB, pC, pD]
 iterate 2
  refine ord_pure rfl rfl rfl rfl rfl (fun _ _ _ _ h => h) ?_ ?_ ?_ ?_ ?_
  rotate_left 2
  ·intro w'; go_simp; with_reducible rfl
  ·simp only [Act.put, pB, pC, pD]; rfl
 refine ord_call rfl rfl rfl rfl rfl Tryz.func128 rfl rfl [.int .i64 p.seg, .int .i64 32] rfl ?_
 refine (rlow_calls p.seg 32 _ (by omega)).mono ?_
 rintro e w' ⟨rfl, rfl⟩
 refine ⟨_, rfl, fun _ => Keep.refl _ _, ?_⟩
 simp only [Act.put, pB, pC, pD]
 iterate 2
  refine ord_pure rfl rfl rfl rfl rfl (fun _ _ _ _ h => h) ?_ ?_ ?_ ?_ ?_
  rotate_left 2
  ·intro w'; go_simp; with_reducible rfl
  ·simp only [Act.put, pB, pC, pD]; rfl
 refine ord_set rfl rfl rfl rfl ?_ ?_ ?_ ?_ ?_
 rotate_left 2
 ·go_simp; with_reducible rfl
 ·simp only [Act.put, pB, pC, pD]; rfl
 refine ord_nil ?_
 replace HG := LH HG.out.drew
 replace HC := LH (show w1.drew.heap[_]? = _ from HC.out)
 clear z0 z1 z2 z3 z4 z5 z6 z7 zf
 generalize w1.drew = w2 at HG HC ⊢
 have z7 := (cells8 HC.out).2.2.2.2.2.2.2.1
 rw [HDB.out] at z7
 go_wp2_with fail
 generalize hX : 2 + 8 * (IntKind.u64.wrap p.off % 536870912) + IntKind.u64.wrap p.seg % 4294967296 * 4294967296 + 4 = X
 have hxx : 0 ≤ X ∧ X ≤ 18446744073709551615 := by omega
 clear hX
 refine (rdec_calls _ _ (hxx).1 (hxx).2).mono ?_
 rintro e w9 ⟨rfl, hg9⟩
 replace HG := LH (HG.out.grow hg9)
 replace HC := LH (Grow.heap hg9 HC.out)
 have HXB := LH (hxx)
 generalize ptrDec (X) = R at hg9 ⊢
 clear hg9
 obtain ⟨z0, z1, z2, z3, z4, z5, z6, z7, zf⟩ := cells8 HC.out
 have hlt9 := (gE HC.out).1
 have hne9 : w9.heap.size ≠ B := by omega
 have hne8 : B ≠ w9.heap.size := by omega
 go_wp2
 all_goals
  go_ret2
  refine ⟨_, _, rfl, ?_, ?_, HG.out.alloc _⟩ <;> first | exact HXB.out.1 | exact HXB.out.2 | omega
theorem renc_calls (p : Pt) (w : World) : Calls Tryz.prog 58 #[.agg #[.int .i64 p.kind, .int .i64 p.off, .int .i64 p.data, .int .i64 p.ptrs, .int .i64 p.size, .int .i64 p.count, .int .i64 p.seg, .bool p.dbl]] w (EncPost w) := by
 by_cases h1 : p.kind = 1
 ·exact renc_struct p w h1
 by_cases h2 : p.kind = 2
 ·exact renc_list p w h2
 by_cases h3 : p.kind = 3
 ·rcases hd : p.dbl with _ | _
  ·have := renc_far0 p w ⟨h3, hd⟩; rwa [hd] at this
  ·have := renc_far1 p w ⟨h3, hd⟩; rwa [hd] at this
 exact renc_none p w ⟨h1, h2, h3⟩
theorem info_words : (Tryz.prog.info? 111).map (fun i => (i.zero, i.size, i.bytes)) = some (some (.slice none 0 0), 1, 24) := by kernel_rfl
theorem u_words : Tryz.prog.underlying 111 = some (.slice 22) := by kernel_rfl
theorem u_arena : Tryz.prog.underlying 29 = some (.slice 111) := by kernel_rfl
def HdR (a : List (List Int)) (vs : List Value) (w : World) : Prop := vs.length = a.length ∧ ∀ i (h : i < a.length), ∃ A c, vs[i]? = some (.slice A a[i].length c) ∧ SliceR 1 (.slice A a[i].length c) a[i].length (u64s a[i]) w
theorem HdR.grow {a : List (List Int)} {vs : List Value} {w w' : World} (h : HdR a vs w) (hg : Grow w w') : HdR a vs w' := ⟨h.1, fun i hi => by
 obtain ⟨A, c, h1, h2⟩ := h.2 i hi
 exact ⟨A, c, h1, h2.grow hg⟩⟩
theorem HdR.one {a : List (List Int)} {vs : List Value} {w : World} (h : HdR a vs w) : ∀ u ∈ vs, u.oneCell' = true := fun u hu => by
 obtain ⟨i, hi, rfl⟩ := List.getElem_of_mem hu
 obtain ⟨A, c, h1, _⟩ := h.2 i (by have := h.1; omega)
 rw [List.getElem?_eq_getElem hi] at h1
 injection h1 with h1
 rw [h1]; rfl
theorem RowsR.heads {a : List (List Int)} {A : Option Addr} {c : Nat} {w : World} (h : RowsR .u64 a (.slice A a.length c) w) : ∃ vs, HdR a vs w ∧ ∀ j u, vs[j]? = some u → ∃ ad, A = some ad ∧ w.cell? (ad.add j) = some u := by
 have hq : ∀ n, n ≤ a.length → ∃ vs : List Value, vs.length = n ∧ ∀ i (hi : i < n), ∃ ad A' c', A = some ad ∧ vs[i]? = some (.slice A' (a.getD i []).length c') ∧ w.cell? (ad.add i) = some (.slice A' (a.getD i []).length c') ∧ SliceR 1 (.slice A' (a.getD i []).length c') (a.getD i []).length (u64s (a.getD i [])) w := by
  intro n
  induction n with
  | zero => exact fun _ => ⟨[], rfl, fun i hi => by omega⟩
  | succ n ih =>
   intro hn
   obtain ⟨vs, hl, hv⟩ := ih (by omega)
   obtain ⟨ad, A', c', h1, h2, h3⟩ := RowsR.at_ h n (by omega)
   have hg : a.getD n [] = a[n] := by simp [show n < a.length by omega]
   refine ⟨vs ++ [.slice A' a[n].length c'], by simp [hl], fun i hi => ?_⟩
   by_cases hin : i < n
   ·obtain ⟨ad2, A2, c2, k1, k2, k3, k4⟩ := hv i hin
    exact ⟨ad2, A2, c2, k1, by rw [List.getElem?_append_left (by omega)]; exact k2, k3, k4⟩
   ·obtain rfl : i = n := by omega
    rw [hg]
    exact ⟨ad, A', c', h1, by rw [List.getElem?_append_right (by omega)]; simp [hl], h2, h3⟩
 obtain ⟨vs, hl, hv⟩ := hq a.length (Nat.le_refl _)
 refine ⟨vs, ⟨hl, fun i hi => ?_⟩, fun j u hu => ?_⟩
 ·obtain ⟨ad, A', c', k1, k2, k3, k4⟩ := hv i hi
  have hg : a.getD i [] = a[i] := by simp [hi]
  rw [hg] at k2 k4
  exact ⟨A', c', k2, k4⟩
 ·have hj : j < a.length := by have := (List.getElem?_eq_some_iff.1 hu).1; omega
  obtain ⟨ad, A', c', k1, k2, k3, k4⟩ := hv j hj
  rw [k2] at hu
  injection hu with hu
  exact ⟨ad, k1, by rw [k3, hu]⟩
theorem RowsR.of_own {base : Nat} {a : List (List Int)} {vs : List Value} {A : Option Addr} {c : Nat} {w : World} (ho : w.ownsRow base 111 1 (.slice A a.length c) a.length vs) (h : HdR a vs w) : RowsR .u64 a (.slice A a.length c) w := by
 obtain ⟨A9, c9, e9, _, _, _, hcs⟩ := SliceR.of_own ho
 injection e9 with e9
 refine ⟨A, c, rfl, fun i hi => ?_⟩
 obtain ⟨A', c', h1, h2⟩ := h.2 i hi
 obtain ⟨ad, had, hc⟩ := hcs i _ h1
 exact ⟨ad, A', c', e9.trans had, hc, h2⟩
theorem RowsR.src {a : List (List Int)} {vs : List Value} {A : Option Addr} {c : Nat} {w : World} (h : HdR a vs w) (hc : ∀ j u, vs[j]? = some u → ∃ ad, A = some ad ∧ w.cell? (ad.add j) = some u) : Src Tryz.prog 1 29 (.slice A a.length c) a.length vs w := by
 cases A with
 | none =>
  have h0 : vs = [] := by
   cases vs with
   | nil => rfl
   | cons x r => obtain ⟨ad, e, _⟩ := hc 0 x rfl; cases e
  have h1 := h.1
  rw [h0] at h1 ⊢
  have h2 : a.length = 0 := h1.symm
  rw [h2]
  exact Src.ofNil w u_arena c
 | some ad =>
  refine Src.ofSlice w u_arena ad a.length c vs (by rw [h.1, Nat.mul_one]) (fun j u hu => ?_) h.one
  obtain ⟨ad', e, hc'⟩ := hc j u hu
  injection e with e
  rw [e]; exact hc'
theorem RowsR.of_slice {a : List (List Int)} {vs : List Value} {A : Option Addr} {c : Nat} {w : World} (ho : SliceR 1 (.slice A a.length c) a.length vs w) (h : HdR a vs w) : RowsR .u64 a (.slice A a.length c) w := by
 obtain ⟨A9, c9, e9, _, _, _, hcs⟩ := ho
 injection e9 with e9
 refine ⟨A, c, rfl, fun i hi => ?_⟩
 obtain ⟨A', c', h1, h2⟩ := h.2 i hi
 obtain ⟨ad, had, hc⟩ := hcs i _ h1
 exact ⟨ad, A', c', e9.trans had, hc, h2⟩
def NewF (F : Nat → Prop) (w w' : World) (k : Nat) : Prop := F k ∨ (w.heap.size ≤ k ∧ k < w'.heap.size)
theorem RowsR.headsF {a : List (List Int)} {A : Option Addr} {c : Nat} {w : World} {F : Nat → Prop} (h : Foot (RowsR .u64 a (.slice A a.length c)) w F) : ∃ vs, Foot (HdR a vs) w F ∧ ∀ j u, vs[j]? = some u → ∃ ad, A = some ad ∧ w.cell? (ad.add j) = some u := by
 obtain ⟨vs, hv, hc⟩ := h.now.heads
 refine ⟨vs, ⟨h.1, fun W' hW => ⟨hv.1, fun i hi => ?_⟩⟩, hc⟩
 obtain ⟨A0, c0, h1, _⟩ := hv.2 i hi
 obtain ⟨ad, hA, hcell⟩ := hc i _ h1
 have hm : F (ad.add i).block := Foot.cell_mem (p := ad.add i) h (fun W2 h2 => by
  obtain ⟨ad2, A2, c2, e2, k2, _⟩ := RowsR.at_ h2 i hi
  rw [hA] at e2
  injection e2 with e2
  subst e2
  exact ⟨_, k2⟩)
 obtain ⟨ad2, A2, c2, e2, k2, k3⟩ := RowsR.at_ (h.2 W' hW) i hi
 rw [hA] at e2
 injection e2 with e2
 subst e2
 have he : W'.cell? (ad.add i) = w.cell? (ad.add i) := by unfold World.cell?; rw [hW _ hm]
 rw [he, hcell] at k2
 injection k2 with k2
 exact ⟨A2, c2, by rw [h1, k2], k3⟩
theorem HdR.set {a : List (List Int)} {vs : List Value} {w : World} (h : HdR a vs w) (i : Nat) (hi : i < a.length) (s : List Int) (A : Option Addr) (c : Nat) (hs : SliceR 1 (.slice A s.length c) s.length (u64s s) w) : HdR (a.set i s) (vs.set i (.slice A s.length c)) w := by
 refine ⟨by rw [List.length_set, List.length_set]; exact h.1, fun j hj => ?_⟩
 rw [List.length_set] at hj
 by_cases e : i = j
 ·subst e
  have h1 := h.1
  exact ⟨A, c, by rw [List.getElem?_set_self (by omega)]; simp, by simpa using hs⟩
 ·obtain ⟨A', c', k1, k2⟩ := h.2 j hj
  exact ⟨A', c', by rw [List.getElem?_set_ne e]; simpa [List.getElem_set_ne e] using k1, by simpa [List.getElem_set_ne e] using k2⟩
theorem u64s_set (l : List Int) (i : Nat) (x : Int) : (u64s l).set i (.int .u64 x) = u64s (l.set i x) := by
 unfold u64s; exact List.map_set.symm
theorem rset_calls (a : List (List Int)) (A : Option Addr) (c : Nat) (size : Int) (full : Bool) (seg i : Nat) (x : Int) (hs : seg < a.length) (hi : i < a[seg].length) (hla : a.length ≤ 1000000) (hls : a[seg].length ≤ 1000000) (w : World) {F : Nat → Prop} (hF : Foot (RowsR .u64 a (.slice A a.length c)) w F) :
    Calls Tryz.prog 194 #[.agg #[.slice A a.length c, .int .i64 size, .bool full], .int .i64 seg, .int .i64 i, .int .u64 x] w fun e w' => ∃ A' c', e = .returned (.agg #[.slice A' a.length c', .int .i64 size, .bool full]) ∧ Grow w w' ∧ Foot (RowsR .u64 (a.set seg (a[seg].set i x)) (.slice A' a.length c')) w' (NewF F w w') := by
 obtain ⟨vs, hvF, hcs⟩ := RowsR.headsF hF
 have hvs := hvF.now
 have HVF := LH hvF
 have hh := heap_two w (.cells #[.slice A a.length c, .int .i64 size, .bool full] 197) (.cells #[.slice none 0 0, .int .i64 0, .bool false] 197)
 have HB0 := LH hh.1
 have HB1 := LH hh.2.1
 have HG := LH hh.2.2
 have HV := LH hvs
 have HCS := LH hcs
 have hlt' : (seg : Int) < a.length := by omega
 have hit' : (i : Int) < a[seg].length := by omega
 obtain ⟨A1, c1, hv1, hsl⟩ := hvs.2 seg hs
 have HSL := LH hsl
 have HV1 := LH hv1
 obtain ⟨n, hn⟩ : ∃ n, a.length = n := ⟨_, rfl⟩
 obtain ⟨m, hm⟩ : ∃ m, a[seg].length = m := ⟨_, rfl⟩
 have HN := LH hn
 have HM := LH hm
 have HSRC := LH (RowsR.src (c := c) (hvs.grow hh.2.2) (fun j u hu => by
  obtain ⟨ad, e1, e2⟩ := hcs j u hu
  exact ⟨ad, e1, hh.2.2.cell e2 (fun h => h)⟩))
 rw [hn] at HB0 HB1 HG HSRC hla hlt' ⊢
 rw [hm] at hls hit'
 clear hF hvF hh hvs hcs hsl hv1 hn hm
 go_enter Tryz.func194, Tryz.ntmps194
 go_wp2_with (at_builtin; refine wpList_app _ rfl _ _ 29 29 rfl w.heap.size 111 (.slice none 0 0) 1 24 u_arena info_words rfl (.slice none 0 0) 0 [] rfl (.slice A n c) n vs rfl ?_ ?c0 ?c1 ?c2 ?c3 ?c4; intro v' w2 hap; refine Hid.out ?_)
 case c0 => exact World.ownsRow_nil _ _ _ _
 case c1 => exact HSRC.out
 case c2 => simp only [maxLen]; omega
 case c3 => omega
 case c4 => simp; omega
 refine LH ?_
 have ho := hap.own
 simp only [Nat.zero_add, List.nil_append] at ho
 have hg2 := HG.out.grown hap.grew (by simp [Value.ownBlock])
 have hgx := (Keep.refl NoB ((w.alloc (.cells #[.slice A n c, .int .i64 size, .bool full] 197)).alloc (.cells #[.slice none 0 0, .int .i64 0, .bool false] 197))).grown hap.grew (by simp [Value.ownBlock])
 have hb0 := Grow.heap hgx HB0.out
 have hb1 := Grow.heap hgx HB1.out
 obtain ⟨r1, k1, e1, hr1, _, hcells1⟩ := own_cells ho (by omega)
 subst e1
 have hr1b := of_append hap r1 hr1
 have q1 : w2.cell? ⟨r1, seg, none⟩ = some (.slice A1 m c1) := by
  have := hcells1 seg _ HV1.out
  rw [HM.out] at this
  simpa using this
 have hr1n : w.heap.size + 2 ≤ r1 := by
  rcases hr1b with h | h
  ·simp [Value.ownBlock] at h
  ·have h2 : r1 = w.heap.size + 1 + 1 := by simpa using h
   omega
 have hsrc2 : Src Tryz.prog 1 111 (.slice A1 m c1) m (u64s a[seg]) w2 := by
  have := (HSL.out.grow hg2).src (tx := 111) u_words (u64s_one _)
  rw [HM.out] at this
  exact this
 have HS2 := LH hsrc2
 have HO := LH ho
 have HG2 := LH hg2
 have HB0' := LH hb0
 have HB1' := LH hb1
 clear hap ho hg2 hgx hb0 hb1 hcells1 hr1 hr1b hsrc2
 clear HSRC HB0 HB1 HG
 go_wp2_with (at_builtin; refine wpList_app _ rfl _ _ 111 111 rfl w2.heap.size 22 (.int .u64 0) 1 8 u_words info_u64 rfl (.slice none 0 0) 0 [] rfl (.slice A1 m c1) m (u64s a[seg]) rfl ?_ ?d0 ?d1 ?d2 ?d3 ?d4; intro v' w3 hap; refine Hid.out ?_)
 case d0 => exact World.ownsRow_nil _ _ _ _
 case d1 => exact HS2.out
 case d2 => simp only [maxLen]; omega
 case d3 => omega
 case d4 => simp
 refine LH ?_
 have ho := hap.own
 simp only [Nat.zero_add, List.nil_append] at ho
 have hgx := (Keep.refl NoB w2).grown hap.grew (by simp [Value.ownBlock])
 obtain ⟨r2, k2, e2, hr2, _, hcells2⟩ := own_cells ho (by omega)
 subst e2
 have hr2b : w2.heap.size ≤ r2 := (ho.lt r2 hr2).1
 have hr1l : r1 < w2.heap.size := (HO.out.lt r1 rfl).2
 have hl64 : (u64s a[seg]).length = m := by rw [← HM.out]; simp [u64s]
 obtain ⟨u0, q2⟩ : ∃ u0, w3.cell? ⟨r2, i, none⟩ = some u0 := ⟨_, by simpa using hcells2 i _ (List.getElem?_eq_getElem (by omega))⟩
 have q2f : w3.frozen? ⟨r2, i, none⟩ = false := ho.frozenAt _
 have hst2 := ho.stored i (.int .u64 x)
 rw [u64s_set] at hst2
 have hO3 := own_keep (own_keep HO.out hgx (fun _ _ h => h)) (keep_put r2 i w3 (.int .u64 x)) (fun k hk e => by cases hk; exact absurd e (show ¬ r1 = r2 by omega))
 have q3 : (w3.setCell ⟨r2, i, none⟩ (.int .u64 x)).cell? ⟨r1, seg, none⟩ = some (.slice A1 m c1) := (keep_put r2 i w3 (.int .u64 x)).cell (hgx.cell q1 (fun h => h)) (by show ¬ r1 = r2; omega)
 have q3f : (w3.setCell ⟨r2, i, none⟩ (.int .u64 x)).frozen? ⟨r1, seg, none⟩ = false := hO3.frozenAt _
 have hst1 := hO3.stored seg (.slice (some ⟨r2, 0, none⟩) m k2)
 have hs2' := own_keep hst2.1 (keep_put r1 seg _ (.slice (some ⟨r2, 0, none⟩) m k2)) (fun k hk e => by cases hk; exact absurd e (show ¬ r2 = r1 by omega))
 have HG4 : Hid (Grow w ((w3.setCell ⟨r2, i, none⟩ (.int .u64 x)).setCell ⟨r1, seg, none⟩ (.slice (some ⟨r2, 0, none⟩) m k2))) :=
  LH (((HG2.out.grow hgx).setCell (p := ⟨r2, i, none⟩) (.inr (by show w.heap.size ≤ r2; omega)) _).setCell (p := ⟨r1, seg, none⟩) (.inr (by show w.heap.size ≤ r1; omega)) _)
 have hK5 : Keep (fun k => k = w.heap.size ∨ k = w.heap.size + 1) ((w3.setCell ⟨r2, i, none⟩ (.int .u64 x)).setCell ⟨r1, seg, none⟩ (.slice (some ⟨r2, 0, none⟩) m k2)) ((((((w3.setCell ⟨r2, i, none⟩ (.int .u64 x)).setCell ⟨r1, seg, none⟩ (.slice (some ⟨r2, 0, none⟩) m k2)).setCell ⟨w.heap.size, 0, none⟩ (.slice (some ⟨r1, 0, none⟩) n k1)).setCell ⟨w.heap.size + 1, 0, none⟩ (.slice (some ⟨r1, 0, none⟩) n k1)).setCell ⟨w.heap.size + 1, 1, none⟩ (.int .i64 size)).setCell ⟨w.heap.size + 1, 2, none⟩ (.bool full)) :=
  ((((Keep.refl (fun k => k = w.heap.size ∨ k = w.heap.size + 1) ((w3.setCell ⟨r2, i, none⟩ (.int .u64 x)).setCell ⟨r1, seg, none⟩ (.slice (some ⟨r2, 0, none⟩) m k2))).setCell (p := ⟨w.heap.size, 0, none⟩) (.inl (.inl rfl)) _).setCell (p := ⟨w.heap.size + 1, 0, none⟩) (.inl (.inr rfl)) _).setCell (p := ⟨w.heap.size + 1, 1, none⟩) (.inl (.inr rfl)) _).setCell (p := ⟨w.heap.size + 1, 2, none⟩) (.inl (.inr rfl)) _
 have HG5 : Hid (Grow w ((((((w3.setCell ⟨r2, i, none⟩ (.int .u64 x)).setCell ⟨r1, seg, none⟩ (.slice (some ⟨r2, 0, none⟩) m k2)).setCell ⟨w.heap.size, 0, none⟩ (.slice (some ⟨r1, 0, none⟩) n k1)).setCell ⟨w.heap.size + 1, 0, none⟩ (.slice (some ⟨r1, 0, none⟩) n k1)).setCell ⟨w.heap.size + 1, 1, none⟩ (.int .i64 size)).setCell ⟨w.heap.size + 1, 2, none⟩ (.bool full))) := LH (HG4.out.trans hK5 (fun j hj => .inr (by omega)))
 have hz := cells3 (Grow.heap hgx HB0'.out)
 have hy := cells3 (Grow.heap hgx HB1'.out)
 obtain ⟨z0, z1, z2, zf⟩ := hz
 obtain ⟨y0, y1, y2, yf⟩ := hy
 have HRR : Hid (Foot (RowsR .u64 (a.set seg (a[seg].set i x)) (.slice (some ⟨r1, 0, none⟩) n k1)) ((((((w3.setCell ⟨r2, i, none⟩ (.int .u64 x)).setCell ⟨r1, seg, none⟩ (.slice (some ⟨r2, 0, none⟩) m k2)).setCell ⟨w.heap.size, 0, none⟩ (.slice (some ⟨r1, 0, none⟩) n k1)).setCell ⟨w.heap.size + 1, 0, none⟩ (.slice (some ⟨r1, 0, none⟩) n k1)).setCell ⟨w.heap.size + 1, 1, none⟩ (.int .i64 size)).setCell ⟨w.heap.size + 1, 2, none⟩ (.bool full)) (NewF F w ((((((w3.setCell ⟨r2, i, none⟩ (.int .u64 x)).setCell ⟨r1, seg, none⟩ (.slice (some ⟨r2, 0, none⟩) m k2)).setCell ⟨w.heap.size, 0, none⟩ (.slice (some ⟨r1, 0, none⟩) n k1)).setCell ⟨w.heap.size + 1, 0, none⟩ (.slice (some ⟨r1, 0, none⟩) n k1)).setCell ⟨w.heap.size + 1, 1, none⟩ (.int .i64 size)).setCell ⟨w.heap.size + 1, 2, none⟩ (.bool full)))) := by
  have hls2 : (a[seg].set i x).length = m := by rw [List.length_set]; exact HM.out
  have hla2 : (a.set seg (a[seg].set i x)).length = n := by rw [List.length_set]; exact HN.out
  have o2 := own_keep hs2' hK5 (fun k hk e => by cases hk; exact absurd e (show ¬ (r2 = w.heap.size ∨ r2 = w.heap.size + 1) by omega))
  have o1 := own_keep hst1.1 hK5 (fun k hk e => by cases hk; exact absurd e (show ¬ (r1 = w.heap.size ∨ r1 = w.heap.size + 1) by omega))
  have hl2 := (o2.lt r2 rfl).2
  have hl1 := (o1.lt r1 rfl).2
  refine LH ((((HVF.out.grow HG5.out).and ((Foot.of_own o1).and (Foot.of_own o2))).imp (fun W' hW => ?_)).mono (fun k hk => ?_) (fun k hk => ?_))
  ·have hsr : SliceR 1 (.slice (some ⟨r2, 0, none⟩) (a[seg].set i x).length k2) (a[seg].set i x).length (u64s (a[seg].set i x)) W' := by
     rw [hls2]
     exact hW.2.2
   have hd := hW.1.set seg hs (a[seg].set i x) _ k2 hsr
   have ho1 : SliceR 1 (.slice (some ⟨r1, 0, none⟩) (a.set seg (a[seg].set i x)).length k1) (a.set seg (a[seg].set i x)).length (vs.set seg (.slice (some ⟨r2, 0, none⟩) (a[seg].set i x).length k2)) W' := by
    rw [hls2, hla2]
    exact hW.2.1
   have := RowsR.of_slice ho1 hd
   rw [hla2] at this
   exact this
  ·rcases hk with h | h
   ·exact Nat.lt_of_lt_of_le (HVF.out.lt h) HG5.out.size
   ·exact h.2
  ·rcases hk with h | h | h
   ·exact .inl h
   ·cases h; exact .inr ⟨show w.heap.size ≤ r1 by omega, hl1⟩
   ·cases h; exact .inr ⟨show w.heap.size ≤ r2 by omega, hl2⟩
 have e1 : r1 ≠ w.heap.size := by omega
 have e2 : r2 ≠ w.heap.size := by omega
 have e3 : w.heap.size ≠ r1 := by omega
 have e4 : w.heap.size ≠ r2 := by omega
 have e5 : w.heap.size + 1 ≠ r1 := by omega
 have e6 : w.heap.size + 1 ≠ r2 := by omega
 clear hap ho hgx hcells2 hr2 hst2 hO3 hst1 hs2' hK5 HB0' HB1' HO hl64
 go_wp2
 refine bodyPost_ret (v := .agg #[.slice (some ⟨r1, 0, none⟩) n k1, .int .i64 size, .bool full]) ?_ rfl ⟨_, _, rfl, HG5.out, HRR.out⟩
 rw [results_cell1 rfl]; go_simp
theorem wcnt_succ (a : List (List Int)) (k : Nat) (h : k < a.length) : (a.take (k + 1)).flatten.length = (a.take k).flatten.length + a[k].length := by
 rw [List.take_succ_eq_append_getElem h, List.flatten_append, List.length_append]; simp only [List.flatten_cons, List.flatten_nil, List.append_nil]
theorem wcnt_le (a : List (List Int)) (B : Nat) (h : ∀ s ∈ a, s.length ≤ B) : a.flatten.length ≤ a.length * B := by
 induction a with
 | nil => simp
 | cons x r ih =>
  have h1 := h x (List.mem_cons_self ..)
  have h2 := ih (fun s hs => h s (List.mem_cons_of_mem _ hs))
  simp only [List.flatten_cons, List.length_append, List.length_cons, Nat.succ_mul]
  omega
theorem rwords7_calls (a : List (List Int)) (A : Option Addr) (c : Nat) (hl : a.length ≤ 1000) (hb : ∀ s ∈ a, s.length ≤ 1000000) (w : World) (hR : RowsR .u64 a (.slice A a.length c) w) :
    Calls Tryz.prog 241 #[.slice A a.length c] w fun e w' => e = .returned (.int .i64 (a.flatten.length : Nat)) ∧ w = w' := by
 have HR := LH hR
 have HB := LH hb
 clear hR hb
 go_enter Tryz.func241, Tryz.ntmps241
 go_wp2
 go_loop [3, 4] (fun s i => ∃ k : Nat, k ≤ a.length ∧ i = .int .i64 k ∧ s = .int .i64 ((a.take k).flatten.length : Nat)) (fun _ i => a.length - (intOf i).toNat)
 case atStart => exact ⟨0, by omega, rfl, by simp⟩
 case round =>
  obtain ⟨k, hk, rfl, rfl⟩ := hrel
  have hbb := wcnt_le (a.take k) 1000000 (fun s hs => HB.out s (List.mem_of_mem_take hs))
  have hbl : (a.take k).length ≤ 1000 := by simp; omega
  have hbm : (a.take k).length * 1000000 ≤ 1000 * 1000000 := Nat.mul_le_mul_right _ hbl
  obtain ⟨S, hS⟩ : ∃ S, (a.take k).flatten.length = S := ⟨_, rfl⟩
  rw [hS] at hbb ⊢
  by_cases hlt : k < a.length
  ·have hlt' : (k : Int) < a.length := by omega
   obtain ⟨ad, A', c', rfl, hcell, _⟩ := RowsR.at_ HR.out k hlt
   have hkb := HB.out _ (List.getElem_mem hlt)
   have HN : Hid ((a.take (k + 1)).flatten.length = S + a[k].length) := LH (by rw [wcnt_succ a k hlt, hS])
   obtain ⟨L, hL⟩ : ∃ L, a[k].length = L := ⟨_, rfl⟩
   rw [hL] at hcell hkb HN
   have hw : IntKind.i64.wrap ((k : Int) + 1) = (k : Int) + 1 := IntWalk.i64_in _ (by omega)
   have hw2 : IntKind.i64.wrap ((S : Int) + L) = (S : Int) + L := IntWalk.i64_in _ (by omega)
   clear hbb hbl hbm hS hL
   go_wp2
   go_round
   case rel => exact ⟨k + 1, by omega, by go_num, by rw [HN.out]; go_num⟩
   case measure => simp [intOf]; omega
  ·obtain rfl : k = a.length := by omega
   have hlt' : ¬ ((a.length : Int) < a.length) := by omega
   have HS := LH hS
   clear hbb hbl hbm hS
   go_wp2
   go_ret
   exact ⟨ret_i (by rw [← HS.out, List.take_length]; simp), rfl⟩
def moreA (a : List (List Int)) (seg : Nat) (l : List Int) : List (List Int) := (if seg = a.length then a ++ [[]] else a).set seg ((if seg = a.length then a ++ [[]] else a).getD seg [] ++ l)
def moreF (a : List (List Int)) (size : Int) (full : Bool) (seg : Nat) (l : List Int) : Bool :=
 full || decide (size < ((moreA a seg l).getD seg []).length) || decide (16 < (moreA a seg l).length) || decide (4096 < (moreA a seg l).flatten.length)
theorem HdR.push {a : List (List Int)} {vs : List Value} {w : World} (h : HdR a vs w) : HdR (a ++ [[]]) (vs ++ [.slice none 0 0]) w := by
 refine ⟨by simp [h.1], fun i hi => ?_⟩
 by_cases e : i < a.length
 ·obtain ⟨A, c, h1, h2⟩ := h.2 i e
  have h3 := h.1
  exact ⟨A, c, by rw [List.getElem?_append_left (by omega)]; simpa [List.getElem_append_left e] using h1, by simpa [List.getElem_append_left e] using h2⟩
 ·have h3 := h.1
  obtain rfl : i = a.length := by simp at hi; omega
  have h4 : (vs ++ [Value.slice none 0 0])[a.length]? = some (.slice none 0 0) := by rw [← h3]; simp
  exact ⟨none, 0, by rw [h4]; simp, by simpa [u64s] using sliceR_none 1 w⟩
theorem rmore_new (a : List (List Int)) (A : Option Addr) (c : Nat) (size : Int) (full : Bool) (seg : Nat) (l : List Int) (Al : Option Addr) (cl : Nat) (hs : seg = a.length) (hla : a.length ≤ 100) (hls : ∀ s ∈ a, s.length ≤ 100000) (hll : l.length ≤ 100000) (w : World) {F : Nat → Prop} (hF : Foot (RowsR .u64 a (.slice A a.length c)) w F) (hl : SliceR 1 (.slice Al l.length cl) l.length (u64s l) w) :
    Calls Tryz.prog 196 #[.agg #[.slice A a.length c, .int .i64 size, .bool full], .int .i64 seg, .slice Al l.length cl] w fun e w' => ∃ A' c', e = .returned (.agg #[.slice A' (moreA a seg l).length c', .int .i64 size, .bool (moreF a size full seg l)]) ∧ Grow w w' ∧ Foot (RowsR .u64 (moreA a seg l) (.slice A' (moreA a seg l).length c')) w' (NewF F w w') := by
 obtain ⟨vs, hvF, hcs⟩ := RowsR.headsF hF
 have hvs := hvF.now
 have hh := heap_two w (.cells #[.slice A a.length c, .int .i64 size, .bool full] 197) (.cells #[.slice none 0 0, .int .i64 0, .bool false] 197)
 have HB0 := LH hh.1
 have HB1 := LH hh.2.1
 have HG := LH hh.2.2
 have HV := LH hvs
 have HL := LH hl
 have HLS := LH hls
 obtain ⟨n, hn⟩ : ∃ n, a.length = n := ⟨_, rfl⟩
 have HN := LH hn
 have HSRC := LH (RowsR.src (c := c) (hvs.grow hh.2.2) (fun j u hu => by
  obtain ⟨ad, e1, e2⟩ := hcs j u hu
  exact ⟨ad, e1, hh.2.2.cell e2 (fun h => h)⟩))
 have hvl := hvs.1
 obtain ⟨a1, ha1⟩ : ∃ a1, a ++ [[]] = a1 := ⟨_, rfl⟩
 have HA1 := LH ha1
 have h1l : a1.length = n + 1 := by rw [← ha1]; simp [hn]
 have hsl : seg < a1.length := by omega
 have HMA : Hid (moreA a seg l = a1.set seg (a1[seg] ++ l)) := LH (by unfold moreA; rw [if_pos hs, ha1]; congr 1; simp [hsl])
 have HD1 : Hid (Foot (HdR a1 (vs ++ [.slice none 0 0])) w F) := LH (by rw [← ha1]; exact hvF.imp (fun _ h => h.push))
 have hm0 : a1[seg].length ≤ 100000 := by subst ha1; subst hs; simp
 have hsn : (seg : Int) = n := by omega
 have hsb : ((seg : Int) == n) = true := by rw [beq_iff_eq]; exact hsn
 have HSN := LH hsn
 obtain ⟨A1, c1, hv1, hslr⟩ := HD1.out.now.2 seg hsl
 obtain ⟨s1, hs1⟩ : ∃ s1, a1[seg] = s1 := ⟨_, rfl⟩
 rw [hs1] at HMA hv1 hslr hm0
 obtain ⟨m, hm⟩ : ∃ m, s1.length = m := ⟨_, rfl⟩
 obtain ⟨p, hp⟩ : ∃ p, l.length = p := ⟨_, rfl⟩
 have HM := LH hm
 have HP := LH hp
 rw [hm] at hv1 hslr hm0
 have HSL := LH hslr
 have HV1 := LH hv1
 have H1L := LH h1l
 have HLEN : Hid ((moreA a seg l).length = n + 1) := LH (by rw [HMA.out, List.length_set]; exact h1l)
 have hslN : (seg : Int) < ((n + 1 : Nat) : Int) := by omega
 have HVL : Hid (vs.length = n) := LH (by omega)
 have HSEG := LH hsl
 rw [hn] at HB0 HB1 HG HSRC hla ⊢
 rw [hp] at HL hll ⊢
 clear hs1 hF hvF hh hvs hcs hl hls hv1 hslr hn hm hp h1l hs ha1 hvl hsn
 go_enter Tryz.func196, Tryz.ntmps196
 go_wp2_with (at_builtin; refine wpList_app _ rfl _ _ 29 29 rfl w.heap.size 111 (.slice none 0 0) 1 24 u_arena info_words rfl (.slice none 0 0) 0 [] rfl (.slice A n c) n vs rfl ?_ ?c0 ?c1 ?c2 ?c3 ?c4; intro v' w2 hap; refine Hid.out ?_)
 case c0 => exact World.ownsRow_nil _ _ _ _
 case c1 => exact HSRC.out
 case c2 => simp only [maxLen]; omega
 case c3 => omega
 case c4 => simp; omega
 refine LH ?_
 have ho := hap.own
 simp only [Nat.zero_add, List.nil_append] at ho
 have hg2 := HG.out.grown hap.grew (by simp [Value.ownBlock])
 have hgx := (Keep.refl NoB ((w.alloc (.cells #[.slice A n c, .int .i64 size, .bool full] 197)).alloc (.cells #[.slice none 0 0, .int .i64 0, .bool false] 197))).grown hap.grew (by simp [Value.ownBlock])
 have hb0 := Grow.heap hgx HB0.out
 have hb1 := Grow.heap hgx HB1.out
 have hge : ∀ k, v'.ownBlock = some k → w.heap.size + 2 ≤ k := fun k hk => by
  rcases of_append hap k hk with h | h
  ·simp [Value.ownBlock] at h
  ·have h2 : k = w.heap.size + 1 + 1 := by simpa using h
   omega
 obtain ⟨Av, cv, rfl, _⟩ := own_slice ho
 have HO := LH ho
 have HGE := LH hge
 have HG2 := LH hg2
 have HB0' := LH hb0
 have HB1' := LH hb1
 have hw2s := (gE hb1).1
 clear hap ho hg2 hgx hb0 hb1 hge
 clear HSRC HB0 HB1 HG
 go_wp2_with (at_builtin; refine wpList_app _ rfl _ _ 29 29 rfl w.heap.size 111 (.slice none 0 0) 1 24 u_arena info_words rfl (.slice Av n cv) n vs rfl (.slice (some ⟨w2.heap.size, 0, none⟩) 1 1) 1 [.slice none 0 0] rfl ?_ ?b0 ?b1 ?b2 ?b3 ?b4; intro v' w2b hap; refine Hid.out ?_)
 case b0 => exact own_keep HO.out ((Keep.refl NoB w2).alloc _) (fun _ _ h => h)
 case b1 => exact Src.ofSlice _ u_arena ⟨w2.heap.size, 0, none⟩ 1 1 _ rfl (World.news_of_block (cs := #[.slice none 0 0]) (t := 111) (fr := (0, 0)) (heap_alloc_new w2 _)) (by simp [Value.oneCell'])
 case b2 => simp only [maxLen]; omega
 case b3 => omega
 case b4 => simp; omega
 refine LH ?_
 have ho := hap.own
 have hkb : Keep (fun k => (Value.slice Av n cv).ownBlock = some k) w2 w2b := ((Keep.refl (fun k => (Value.slice Av n cv).ownBlock = some k) w2).alloc _).grown hap.grew (fun k hk => .inl hk)
 have hg2 := HG2.out.trans hkb (fun k hk => .inr (by have := HGE.out k hk; omega))
 have hge : ∀ k, v'.ownBlock = some k → w.heap.size + 2 ≤ k := fun k hk => by
  rcases of_append hap k hk with h | h
  ·exact HGE.out k h
  ·have : k = w2.heap.size + 1 := by simpa using h
   omega
 have hb0 := (hkb.block w.heap.size (by omega) (fun e => by have := HGE.out _ e; omega)).trans HB0'.out
 have hb1 := (hkb.block (w.heap.size + 1) (by omega) (fun e => by have := HGE.out _ e; omega)).trans HB1'.out
 have hw3s := hkb.size
 obtain ⟨Av2, cv2, rfl, _⟩ := own_slice ho
 replace HO := LH ho
 replace HGE := LH hge
 replace HG2 := LH hg2
 replace HB0' := LH hb0
 replace HB1' := LH hb1
 replace hw2s : w.heap.size + 1 < w2b.heap.size := by omega
 clear hap ho hkb hg2 hge hb0 hb1 hw3s
 obtain ⟨N, hN⟩ : ∃ N, n + 1 = N := ⟨_, rfl⟩
 rw [hN] at HO HLEN hslN ⊢
 obtain ⟨r1, k1, e1, hr1, _, hcells1⟩ := own_cells HO.out (by omega)
 injection e1 with e1 _ e2
 subst e1; subst e2
 have q1 : w2b.cell? ⟨r1, seg, none⟩ = some (.slice A1 m c1) := by simpa using hcells1 seg _ HV1.out
 have hr1n := HGE.out r1 hr1
 have hr1l := (HO.out.lt r1 hr1).2
 have HNX := LH hN
 have HS2 := LH ((HSL.out.grow HG2.out).src (P := Tryz.prog) (tx := 111) u_words (u64s_one _))
 clear hcells1 hr1 hN
 go_wp2_with (at_builtin; refine wpList_app _ rfl _ _ 111 111 rfl w2b.heap.size 22 (.int .u64 0) 1 8 u_words info_u64 rfl (.slice none 0 0) 0 [] rfl (.slice A1 m c1) m (u64s s1) rfl ?_ ?d0 ?d1 ?d2 ?d3 (Nat.le_refl _); intro v' w3 hap; refine Hid.out ?_)
 case d0 => exact World.ownsRow_nil _ _ _ _
 case d1 => exact HS2.out
 case d2 => simp only [maxLen]; omega
 case d3 => omega
 refine LH ?_
 have ho := hap.own
 simp only [Nat.zero_add, List.nil_append] at ho
 have hgx := (Keep.refl NoB w2b).grown hap.grew (by simp [Value.ownBlock])
 obtain ⟨As, ks, rfl, _⟩ := own_slice ho
 have HO3 := LH (own_keep HO.out hgx (fun _ _ h => h))
 have HG3 := LH (HG2.out.grow hgx)
 have HB03 := LH (Grow.heap hgx HB0'.out)
 have HB13 := LH (Grow.heap hgx HB1'.out)
 have HS := LH ho
 have hw23 := hgx.size
 have HS3 := LH ((HL.out.grow HG3.out).src (P := Tryz.prog) (tx := 111) u_words (u64s_one _))
 clear hap ho hgx HO HB0' HB1' HS2 q1
 go_wp2_with (at_builtin; refine wpList_app _ rfl _ _ 111 111 rfl w2b.heap.size 22 (.int .u64 0) 1 8 u_words info_u64 rfl (.slice As m ks) m (u64s s1) rfl (.slice Al p cl) p (u64s l) rfl ?_ ?f0 ?f1 ?f2 ?f3 ?f4; intro v' w4 hap; refine Hid.out ?_)
 case f0 => exact HS.out
 case f1 => exact HS3.out
 case f2 => simp only [maxLen]; omega
 case f3 => omega
 case f4 => exact hw23
 refine LH ?_
 have ho := hap.own
 obtain ⟨At, kt, rfl, _⟩ := own_slice ho
 have hlo3 : ∀ k, (Value.slice As m ks).ownBlock = some k → w2b.heap.size ≤ k := fun k hk => (HS.out.lt k hk).1
 have hlo4 : ∀ k, (Value.slice At (m + p) kt).ownBlock = some k → w2b.heap.size ≤ k := fun k hk => (ho.lt k hk).1
 have hk4 : Keep (fun k => (Value.slice As m ks).ownBlock = some k) w3 w4 := (Keep.refl _ w3).grown hap.grew (fun k hk => .inl hk)
 have hO4 := own_keep HO3.out hk4 (fun k hk e => by cases hk; have h9 : w2b.heap.size ≤ r1 := hlo3 _ e; omega)
 have hg4 := HG3.out.trans hk4 (fun k hk => .inr (by have := hlo3 k hk; omega))
 have hb04 := (hk4.block w.heap.size (by have := (gE HB03.out).1; exact this) (fun e => by have := hlo3 _ e; omega)).trans HB03.out
 have hb14 := (hk4.block (w.heap.size + 1) (by have := (gE HB13.out).1; exact this) (fun e => by have := hlo3 _ e; omega)).trans HB13.out
 obtain ⟨q, hq⟩ : ∃ q, m + p = q := ⟨_, rfl⟩
 have HQ := LH hq
 rw [hq] at ho hlo4 ⊢
 have hqb : q ≤ 200000 := by omega
 obtain ⟨u0, q3⟩ : ∃ u0, w4.cell? ⟨r1, seg, none⟩ = some u0 := by
  obtain ⟨r9, k9, e9, _, _, hc9⟩ := own_cells hO4 (by omega)
  injection e9 with e9 _ _
  injection e9 with e9
  injection e9 with e9
  subst e9
  have hl9 := hO4.1
  exact ⟨_, by simpa using hc9 seg _ (List.getElem?_eq_getElem (by omega))⟩
 have q3f : w4.frozen? ⟨r1, seg, none⟩ = false := hO4.frozenAt _
 have hst1 := hO4.stored seg (.slice At q kt)
 have hs5 := own_keep ho (keep_put r1 seg w4 (.slice At q kt)) (fun k hk e => by have := hlo4 k hk; omega)
 have hg5 := hg4.setCell (p := ⟨r1, seg, none⟩) (.inr (by show w.heap.size ≤ r1; omega)) (.slice At q kt)
 have hS5L : ∀ k, (Value.slice At q kt).ownBlock = some k → w.heap.size + 1 < k := fun k hk => by have := hlo4 k hk; omega
 have HRR : Hid (∀ W', Keep (fun k => k = w.heap.size ∨ k = w.heap.size + 1) (w4.setCell ⟨r1, seg, none⟩ (.slice At q kt)) W' → Grow w W' ∧ Foot (RowsR .u64 (moreA a seg l) (.slice (some ⟨r1, 0, none⟩) N cv2)) W' (NewF F w W')) := by
  refine LH (fun W' hk => ?_)
  have hgw : Grow w W' := hg5.trans hk (fun j hj => .inr (by omega))
  have hsl2 : (s1 ++ l).length = q := by rw [List.length_append, HM.out, HP.out, HQ.out]
  have hla2 : (moreA a seg l).length = N := HLEN.out
  rw [HMA.out] at hla2 ⊢
  have o2 := own_keep hs5 hk (fun k hk2 e => by have := hS5L k hk2; omega)
  have o1 := own_keep hst1.1 hk (fun k hk2 e => by cases hk2; exact absurd e (show ¬ (r1 = w.heap.size ∨ r1 = w.heap.size + 1) by omega))
  have hl1 := (o1.lt r1 rfl).2
  have hl2 : ∀ j, (Value.slice At q kt).ownBlock = some j → w.heap.size ≤ j ∧ j < W'.heap.size := fun j hj => ⟨by have := hS5L j hj; omega, (o2.lt j hj).2⟩
  refine ⟨hgw, (((HD1.out.grow hgw).and ((Foot.of_own o1).and (Foot.of_own o2))).imp (fun W2 hW => ?_)).mono (fun k hk => ?_) (fun k hk => ?_)⟩
  ·have hsr : SliceR 1 (.slice At (s1 ++ l).length kt) (s1 ++ l).length (u64s (s1 ++ l)) W2 := by
     rw [hsl2]
     have := hW.2.2
     rwa [show u64s (s1 ++ l) = u64s s1 ++ u64s l from by simp [u64s]]
   have hd := hW.1.set seg HSEG.out (s1 ++ l) _ kt hsr
   have ho1 : SliceR 1 (.slice (some ⟨r1, 0, none⟩) (a1.set seg (s1 ++ l)).length cv2) (a1.set seg (s1 ++ l)).length ((vs ++ [Value.slice none 0 0]).set seg (.slice At (s1 ++ l).length kt)) W2 := by
    rw [hsl2, hla2]
    exact hW.2.1
   have := RowsR.of_slice ho1 hd
   rw [hla2] at this
   exact this
  ·rcases hk with h | h
   ·exact Nat.lt_of_lt_of_le (HD1.out.lt h) hgw.size
   ·exact h.2
  ·rcases hk with h | h | h
   ·exact .inl h
   ·cases h; exact .inr ⟨show w.heap.size ≤ r1 by omega, hl1⟩
   ·exact .inr (hl2 k h)
 have HFIN : Hid (∀ B9 : Bool, Grow w ((((((w4.setCell ⟨r1, seg, none⟩ (.slice At q kt)).setCell ⟨w.heap.size, 0, none⟩ (.slice (some ⟨r1, 0, none⟩) N cv2)).setCell ⟨w.heap.size, 2, none⟩ (.bool B9)).setCell ⟨w.heap.size + 1, 0, none⟩ (.slice (some ⟨r1, 0, none⟩) N cv2)).setCell ⟨w.heap.size + 1, 1, none⟩ (.int .i64 size)).setCell ⟨w.heap.size + 1, 2, none⟩ (.bool B9)) ∧ Foot (RowsR .u64 (moreA a seg l) (.slice (some ⟨r1, 0, none⟩) N cv2)) ((((((w4.setCell ⟨r1, seg, none⟩ (.slice At q kt)).setCell ⟨w.heap.size, 0, none⟩ (.slice (some ⟨r1, 0, none⟩) N cv2)).setCell ⟨w.heap.size, 2, none⟩ (.bool B9)).setCell ⟨w.heap.size + 1, 0, none⟩ (.slice (some ⟨r1, 0, none⟩) N cv2)).setCell ⟨w.heap.size + 1, 1, none⟩ (.int .i64 size)).setCell ⟨w.heap.size + 1, 2, none⟩ (.bool B9)) (NewF F w ((((((w4.setCell ⟨r1, seg, none⟩ (.slice At q kt)).setCell ⟨w.heap.size, 0, none⟩ (.slice (some ⟨r1, 0, none⟩) N cv2)).setCell ⟨w.heap.size, 2, none⟩ (.bool B9)).setCell ⟨w.heap.size + 1, 0, none⟩ (.slice (some ⟨r1, 0, none⟩) N cv2)).setCell ⟨w.heap.size + 1, 1, none⟩ (.int .i64 size)).setCell ⟨w.heap.size + 1, 2, none⟩ (.bool B9)))) := LH (fun B9 => HRR.out _
  (((((((Keep.refl (fun k => k = w.heap.size ∨ k = w.heap.size + 1) (w4.setCell ⟨r1, seg, none⟩ (.slice At q kt))).setCell (p := ⟨w.heap.size, 0, none⟩) (.inl (.inl rfl)) _).setCell (p := ⟨w.heap.size, 2, none⟩) (.inl (.inl rfl)) _).setCell (p := ⟨w.heap.size + 1, 0, none⟩) (.inl (.inr rfl)) _).setCell (p := ⟨w.heap.size + 1, 1, none⟩) (.inl (.inr rfl)) _).setCell (p := ⟨w.heap.size + 1, 2, none⟩) (.inl (.inr rfl)) _)))
 have HW6 := LH (HRR.out ((w4.setCell ⟨r1, seg, none⟩ (.slice At q kt)).setCell ⟨w.heap.size, 0, none⟩ (.slice (some ⟨r1, 0, none⟩) N cv2)) ((Keep.refl (fun k => k = w.heap.size ∨ k = w.heap.size + 1) (w4.setCell ⟨r1, seg, none⟩ (.slice At q kt))).setCell (p := ⟨w.heap.size, 0, none⟩) (.inl (.inl rfl)) _)).2.now
 obtain ⟨z0, z1, z2, zf⟩ := cells3 hb04
 obtain ⟨y0, y1, y2, yf⟩ := cells3 hb14
 have e1 : r1 ≠ w.heap.size := by omega
 have e2 : w.heap.size ≠ r1 := by omega
 have e3 : r1 ≠ w.heap.size + 1 := by omega
 have e4 : w.heap.size + 1 ≠ r1 := by omega
 have HSQ : Hid (((moreA a seg l).getD seg []).length = q) := LH (by rw [HMA.out]; simp [HSEG.out]; have := HM.out; have := HP.out; have := HQ.out; omega)
 have HWB : Hid ((moreA a seg l).length ≤ 1000 ∧ ∀ s ∈ moreA a seg l, s.length ≤ 1000000) := LH ⟨by have := HLEN.out; have := HNX.out; omega, fun s hs => by
  rw [HMA.out] at hs
  rcases List.mem_or_eq_of_mem_set hs with h | h
  ·rw [← HA1.out] at h; rcases List.mem_append.1 h with h | h
   ·have := HLS.out s h; omega
   ·rw [List.mem_singleton.1 h]; simp
  ·rw [h, List.length_append]; have := HM.out; have := HP.out; omega⟩
 clear hap ho hlo3 hlo4 hk4 hO4 hg4 hb04 hb14 hq hst1 hs5 hg5 HO3 HG3 HB03 HB13 HS HS3 HG2 hS5L
 have HFD : Hid (moreF a size full seg l = (full || decide (size < q) || decide (16 < N) || decide (4096 < (moreA a seg l).flatten.length))) := LH (by unfold moreF; rw [HSQ.out, HLEN.out])
 rcases hfl : full with _ | _
 ·by_cases hsz : size < q
  ·have hsd : decide (size < (q : Int)) = true := by simpa using hsz
   have HF : Hid (moreF a size full seg l = true) := LH (by rw [HFD.out, hsd]; simp)
   subst hfl
   go_wp2
   refine bodyPost_ret (v := .agg #[.slice (some ⟨r1, 0, none⟩) N cv2, .int .i64 size, .bool true]) ?_ rfl ⟨some ⟨r1, 0, none⟩, cv2, by rw [HLEN.out, HF.out], (HFIN.out true).1, by rw [HLEN.out]; exact (HFIN.out true).2⟩
   rw [results_cell1 rfl]; go_simp
  ·by_cases h16 : 16 < N
   ·have h16' : (16 : Int) < N := by omega
    have HF : Hid (moreF a size full seg l = true) := LH (by rw [HFD.out]; simp [h16])
    subst hfl
    go_wp2
    refine bodyPost_ret (v := .agg #[.slice (some ⟨r1, 0, none⟩) N cv2, .int .i64 size, .bool true]) ?_ rfl ⟨some ⟨r1, 0, none⟩, cv2, by rw [HLEN.out, HF.out], (HFIN.out true).1, by rw [HLEN.out]; exact (HFIN.out true).2⟩
    rw [results_cell1 rfl]; go_simp
   ·have h16' : ¬ (16 : Int) < N := by omega
    have HF : Hid (moreF a size full seg l = decide (4096 < (moreA a seg l).flatten.length)) := LH (by
     rw [HFD.out, hfl]
     have : decide (size < (q : Int)) = false := by simpa using hsz
     rw [this]
     simp [h16])
    subst hfl
    have HWC := LH (rwords7_calls (moreA a seg l) (some ⟨r1, 0, none⟩) cv2 HWB.out.1 HWB.out.2 _ (by rw [HLEN.out]; exact HW6.out))
    rw [HLEN.out] at HWC
    obtain ⟨K, hK⟩ : ∃ K, (moreA a seg l).flatten.length = K := ⟨_, rfl⟩
    rw [hK] at HWC HF
    clear hK
    go_wp2_with fail
    refine HWC.out.mono ?_
    rintro e w5 ⟨rfl, rfl⟩
    replace HF : Hid (moreF a size false seg l = decide (4096 < (K : Int))) := LH (by rw [HF.out, decide_eq_decide]; omega)
    go_wp2
    refine bodyPost_ret (v := .agg #[.slice (some ⟨r1, 0, none⟩) N cv2, .int .i64 size, .bool (decide (4096 < (K : Int)))]) ?_ rfl ⟨some ⟨r1, 0, none⟩, cv2, by rw [HLEN.out, HF.out], (HFIN.out _).1, by rw [HLEN.out]; exact (HFIN.out _).2⟩
    rw [results_cell1 rfl]; go_simp
 ·have HF : Hid (moreF a size full seg l = true) := LH (by rw [HFD.out, hfl]; simp)
  subst hfl
  go_wp2
  refine bodyPost_ret (v := .agg #[.slice (some ⟨r1, 0, none⟩) N cv2, .int .i64 size, .bool true]) ?_ rfl ⟨some ⟨r1, 0, none⟩, cv2, by rw [HLEN.out, HF.out], (HFIN.out true).1, by rw [HLEN.out]; exact (HFIN.out true).2⟩
  rw [results_cell1 rfl]; go_simp
theorem rmore_old (a : List (List Int)) (A : Option Addr) (c : Nat) (size : Int) (full : Bool) (seg : Nat) (l : List Int) (Al : Option Addr) (cl : Nat) (hs : seg < a.length) (hla : a.length ≤ 100) (hls : ∀ s ∈ a, s.length ≤ 100000) (hll : l.length ≤ 100000) (w : World) {F : Nat → Prop} (hF : Foot (RowsR .u64 a (.slice A a.length c)) w F) (hl : SliceR 1 (.slice Al l.length cl) l.length (u64s l) w) :
    Calls Tryz.prog 196 #[.agg #[.slice A a.length c, .int .i64 size, .bool full], .int .i64 seg, .slice Al l.length cl] w fun e w' => ∃ A' c', e = .returned (.agg #[.slice A' (moreA a seg l).length c', .int .i64 size, .bool (moreF a size full seg l)]) ∧ Grow w w' ∧ Foot (RowsR .u64 (moreA a seg l) (.slice A' (moreA a seg l).length c')) w' (NewF F w w') := by
 obtain ⟨vs, hvF, hcs⟩ := RowsR.headsF hF
 have hvs := hvF.now
 have hh := heap_two w (.cells #[.slice A a.length c, .int .i64 size, .bool full] 197) (.cells #[.slice none 0 0, .int .i64 0, .bool false] 197)
 have HB0 := LH hh.1
 have HB1 := LH hh.2.1
 have HG := LH hh.2.2
 have HV := LH hvs
 have HL := LH hl
 have HLS := LH hls
 obtain ⟨n, hn⟩ : ∃ n, a.length = n := ⟨_, rfl⟩
 have HN := LH hn
 have HSRC := LH (RowsR.src (c := c) (hvs.grow hh.2.2) (fun j u hu => by
  obtain ⟨ad, e1, e2⟩ := hcs j u hu
  exact ⟨ad, e1, hh.2.2.cell e2 (fun h => h)⟩))
 have hvl := hvs.1
 obtain ⟨a1, ha1⟩ : ∃ a1, a = a1 := ⟨_, rfl⟩
 have HA1 := LH ha1
 have h1l : a1.length = n := by rw [← ha1]; exact hn
 have hsl : seg < a1.length := by rw [← ha1]; exact hs
 have HMA : Hid (moreA a seg l = a1.set seg (a1[seg] ++ l)) := LH (by unfold moreA; rw [if_neg (by omega), ha1]; congr 1; simp [hsl])
 have HD1 : Hid (Foot (HdR a1 vs) w F) := LH (by rw [← ha1]; exact hvF)
 have hm0 : a1[seg].length ≤ 100000 := by subst ha1; exact hls _ (List.getElem_mem hsl)
 have hsb : ((seg : Int) == n) = false := by rw [beq_eq_false_iff_ne]; omega
 obtain ⟨A1, c1, hv1, hslr⟩ := HD1.out.now.2 seg hsl
 obtain ⟨s1, hs1⟩ : ∃ s1, a1[seg] = s1 := ⟨_, rfl⟩
 rw [hs1] at HMA hv1 hslr hm0
 obtain ⟨m, hm⟩ : ∃ m, s1.length = m := ⟨_, rfl⟩
 obtain ⟨p, hp⟩ : ∃ p, l.length = p := ⟨_, rfl⟩
 have HM := LH hm
 have HP := LH hp
 rw [hm] at hv1 hslr hm0
 have HSL := LH hslr
 have HV1 := LH hv1
 have H1L := LH h1l
 have HLEN : Hid ((moreA a seg l).length = n) := LH (by rw [HMA.out, List.length_set]; exact h1l)
 have hslN : (seg : Int) < ((n : Nat) : Int) := by omega
 have HVL : Hid (vs.length = n) := LH (by omega)
 have HSEG := LH hsl
 rw [hn] at HB0 HB1 HG HSRC hla ⊢
 rw [hp] at HL hll ⊢
 clear hs1 hF hvF hh hvs hcs hl hls hv1 hslr hn hm hp h1l hs ha1 hvl
 go_enter Tryz.func196, Tryz.ntmps196
 go_wp2_with (at_builtin; refine wpList_app _ rfl _ _ 29 29 rfl w.heap.size 111 (.slice none 0 0) 1 24 u_arena info_words rfl (.slice none 0 0) 0 [] rfl (.slice A n c) n vs rfl ?_ ?c0 ?c1 ?c2 ?c3 ?c4; intro v' w2 hap; refine Hid.out ?_)
 case c0 => exact World.ownsRow_nil _ _ _ _
 case c1 => exact HSRC.out
 case c2 => simp only [maxLen]; omega
 case c3 => omega
 case c4 => simp; omega
 refine LH ?_
 have ho := hap.own
 simp only [Nat.zero_add, List.nil_append] at ho
 have hg2 := HG.out.grown hap.grew (by simp [Value.ownBlock])
 have hgx := (Keep.refl NoB ((w.alloc (.cells #[.slice A n c, .int .i64 size, .bool full] 197)).alloc (.cells #[.slice none 0 0, .int .i64 0, .bool false] 197))).grown hap.grew (by simp [Value.ownBlock])
 have hb0 := Grow.heap hgx HB0.out
 have hb1 := Grow.heap hgx HB1.out
 have hge : ∀ k, v'.ownBlock = some k → w.heap.size + 2 ≤ k := fun k hk => by
  rcases of_append hap k hk with h | h
  ·simp [Value.ownBlock] at h
  ·have h2 : k = w.heap.size + 1 + 1 := by simpa using h
   omega
 obtain ⟨Av, cv, rfl, _⟩ := own_slice ho
 have HO := LH ho
 have HGE := LH hge
 have HG2 := LH hg2
 have HB0' := LH hb0
 have HB1' := LH hb1
 have hw2s := (gE hb1).1
 clear hap ho hg2 hgx hb0 hb1 hge
 clear HSRC HB0 HB1 HG
 obtain ⟨N, hN⟩ : ∃ N, n = N := ⟨_, rfl⟩
 rw [hN] at HO HLEN hslN ⊢
 obtain ⟨r1, k1, e1, hr1, _, hcells1⟩ := own_cells HO.out (by omega)
 injection e1 with e1 _ e2
 subst e1; subst e2
 have q1 : w2.cell? ⟨r1, seg, none⟩ = some (.slice A1 m c1) := by simpa using hcells1 seg _ HV1.out
 have hr1n := HGE.out r1 hr1
 have hr1l := (HO.out.lt r1 hr1).2
 have HNX := LH hN
 have HS2 := LH ((HSL.out.grow HG2.out).src (P := Tryz.prog) (tx := 111) u_words (u64s_one _))
 clear hcells1 hr1 hN
 go_wp2_with (at_builtin; refine wpList_app _ rfl _ _ 111 111 rfl w2.heap.size 22 (.int .u64 0) 1 8 u_words info_u64 rfl (.slice none 0 0) 0 [] rfl (.slice A1 m c1) m (u64s s1) rfl ?_ ?d0 ?d1 ?d2 ?d3 (Nat.le_refl _); intro v' w3 hap; refine Hid.out ?_)
 case d0 => exact World.ownsRow_nil _ _ _ _
 case d1 => exact HS2.out
 case d2 => simp only [maxLen]; omega
 case d3 => omega
 refine LH ?_
 have ho := hap.own
 simp only [Nat.zero_add, List.nil_append] at ho
 have hgx := (Keep.refl NoB w2).grown hap.grew (by simp [Value.ownBlock])
 obtain ⟨As, ks, rfl, _⟩ := own_slice ho
 have HO3 := LH (own_keep HO.out hgx (fun _ _ h => h))
 have HG3 := LH (HG2.out.grow hgx)
 have HB03 := LH (Grow.heap hgx HB0'.out)
 have HB13 := LH (Grow.heap hgx HB1'.out)
 have HS := LH ho
 have hw23 := hgx.size
 have HS3 := LH ((HL.out.grow HG3.out).src (P := Tryz.prog) (tx := 111) u_words (u64s_one _))
 clear hap ho hgx HO HB0' HB1' HS2 q1
 go_wp2_with (at_builtin; refine wpList_app _ rfl _ _ 111 111 rfl w2.heap.size 22 (.int .u64 0) 1 8 u_words info_u64 rfl (.slice As m ks) m (u64s s1) rfl (.slice Al p cl) p (u64s l) rfl ?_ ?f0 ?f1 ?f2 ?f3 ?f4; intro v' w4 hap; refine Hid.out ?_)
 case f0 => exact HS.out
 case f1 => exact HS3.out
 case f2 => simp only [maxLen]; omega
 case f3 => omega
 case f4 => exact hw23
 refine LH ?_
 have ho := hap.own
 obtain ⟨At, kt, rfl, _⟩ := own_slice ho
 have hlo3 : ∀ k, (Value.slice As m ks).ownBlock = some k → w2.heap.size ≤ k := fun k hk => (HS.out.lt k hk).1
 have hlo4 : ∀ k, (Value.slice At (m + p) kt).ownBlock = some k → w2.heap.size ≤ k := fun k hk => (ho.lt k hk).1
 have hk4 : Keep (fun k => (Value.slice As m ks).ownBlock = some k) w3 w4 := (Keep.refl _ w3).grown hap.grew (fun k hk => .inl hk)
 have hO4 := own_keep HO3.out hk4 (fun k hk e => by cases hk; have h9 : w2.heap.size ≤ r1 := hlo3 _ e; omega)
 have hg4 := HG3.out.trans hk4 (fun k hk => .inr (by have := hlo3 k hk; omega))
 have hb04 := (hk4.block w.heap.size (by have := (gE HB03.out).1; exact this) (fun e => by have := hlo3 _ e; omega)).trans HB03.out
 have hb14 := (hk4.block (w.heap.size + 1) (by have := (gE HB13.out).1; exact this) (fun e => by have := hlo3 _ e; omega)).trans HB13.out
 obtain ⟨q, hq⟩ : ∃ q, m + p = q := ⟨_, rfl⟩
 have HQ := LH hq
 rw [hq] at ho hlo4 ⊢
 have hqb : q ≤ 200000 := by omega
 obtain ⟨u0, q3⟩ : ∃ u0, w4.cell? ⟨r1, seg, none⟩ = some u0 := by
  obtain ⟨r9, k9, e9, _, _, hc9⟩ := own_cells hO4 (by omega)
  injection e9 with e9 _ _
  injection e9 with e9
  injection e9 with e9
  subst e9
  have hl9 := hO4.1
  exact ⟨_, by simpa using hc9 seg _ (List.getElem?_eq_getElem (by omega))⟩
 have q3f : w4.frozen? ⟨r1, seg, none⟩ = false := hO4.frozenAt _
 have hst1 := hO4.stored seg (.slice At q kt)
 have hs5 := own_keep ho (keep_put r1 seg w4 (.slice At q kt)) (fun k hk e => by have := hlo4 k hk; omega)
 have hg5 := hg4.setCell (p := ⟨r1, seg, none⟩) (.inr (by show w.heap.size ≤ r1; omega)) (.slice At q kt)
 have hS5L : ∀ k, (Value.slice At q kt).ownBlock = some k → w.heap.size + 1 < k := fun k hk => by have := hlo4 k hk; omega
 have HRR : Hid (∀ W', Keep (fun k => k = w.heap.size ∨ k = w.heap.size + 1) (w4.setCell ⟨r1, seg, none⟩ (.slice At q kt)) W' → Grow w W' ∧ Foot (RowsR .u64 (moreA a seg l) (.slice (some ⟨r1, 0, none⟩) N cv)) W' (NewF F w W')) := by
  refine LH (fun W' hk => ?_)
  have hgw : Grow w W' := hg5.trans hk (fun j hj => .inr (by omega))
  have hsl2 : (s1 ++ l).length = q := by rw [List.length_append, HM.out, HP.out, HQ.out]
  have hla2 : (moreA a seg l).length = N := HLEN.out
  rw [HMA.out] at hla2 ⊢
  have o2 := own_keep hs5 hk (fun k hk2 e => by have := hS5L k hk2; omega)
  have o1 := own_keep hst1.1 hk (fun k hk2 e => by cases hk2; exact absurd e (show ¬ (r1 = w.heap.size ∨ r1 = w.heap.size + 1) by omega))
  have hl1 := (o1.lt r1 rfl).2
  have hl2 : ∀ j, (Value.slice At q kt).ownBlock = some j → w.heap.size ≤ j ∧ j < W'.heap.size := fun j hj => ⟨by have := hS5L j hj; omega, (o2.lt j hj).2⟩
  refine ⟨hgw, (((HD1.out.grow hgw).and ((Foot.of_own o1).and (Foot.of_own o2))).imp (fun W2 hW => ?_)).mono (fun k hk => ?_) (fun k hk => ?_)⟩
  ·have hsr : SliceR 1 (.slice At (s1 ++ l).length kt) (s1 ++ l).length (u64s (s1 ++ l)) W2 := by
     rw [hsl2]
     have := hW.2.2
     rwa [show u64s (s1 ++ l) = u64s s1 ++ u64s l from by simp [u64s]]
   have hd := hW.1.set seg HSEG.out (s1 ++ l) _ kt hsr
   have ho1 : SliceR 1 (.slice (some ⟨r1, 0, none⟩) (a1.set seg (s1 ++ l)).length cv) (a1.set seg (s1 ++ l)).length (vs.set seg (.slice At (s1 ++ l).length kt)) W2 := by
    rw [hsl2, hla2]
    exact hW.2.1
   have := RowsR.of_slice ho1 hd
   rw [hla2] at this
   exact this
  ·rcases hk with h | h
   ·exact Nat.lt_of_lt_of_le (HD1.out.lt h) hgw.size
   ·exact h.2
  ·rcases hk with h | h | h
   ·exact .inl h
   ·cases h; exact .inr ⟨show w.heap.size ≤ r1 by omega, hl1⟩
   ·exact .inr (hl2 k h)
 have HFIN : Hid (∀ B9 : Bool, Grow w ((((((w4.setCell ⟨r1, seg, none⟩ (.slice At q kt)).setCell ⟨w.heap.size, 0, none⟩ (.slice (some ⟨r1, 0, none⟩) N cv)).setCell ⟨w.heap.size, 2, none⟩ (.bool B9)).setCell ⟨w.heap.size + 1, 0, none⟩ (.slice (some ⟨r1, 0, none⟩) N cv)).setCell ⟨w.heap.size + 1, 1, none⟩ (.int .i64 size)).setCell ⟨w.heap.size + 1, 2, none⟩ (.bool B9)) ∧ Foot (RowsR .u64 (moreA a seg l) (.slice (some ⟨r1, 0, none⟩) N cv)) ((((((w4.setCell ⟨r1, seg, none⟩ (.slice At q kt)).setCell ⟨w.heap.size, 0, none⟩ (.slice (some ⟨r1, 0, none⟩) N cv)).setCell ⟨w.heap.size, 2, none⟩ (.bool B9)).setCell ⟨w.heap.size + 1, 0, none⟩ (.slice (some ⟨r1, 0, none⟩) N cv)).setCell ⟨w.heap.size + 1, 1, none⟩ (.int .i64 size)).setCell ⟨w.heap.size + 1, 2, none⟩ (.bool B9)) (NewF F w ((((((w4.setCell ⟨r1, seg, none⟩ (.slice At q kt)).setCell ⟨w.heap.size, 0, none⟩ (.slice (some ⟨r1, 0, none⟩) N cv)).setCell ⟨w.heap.size, 2, none⟩ (.bool B9)).setCell ⟨w.heap.size + 1, 0, none⟩ (.slice (some ⟨r1, 0, none⟩) N cv)).setCell ⟨w.heap.size + 1, 1, none⟩ (.int .i64 size)).setCell ⟨w.heap.size + 1, 2, none⟩ (.bool B9)))) := LH (fun B9 => HRR.out _
  (((((((Keep.refl (fun k => k = w.heap.size ∨ k = w.heap.size + 1) (w4.setCell ⟨r1, seg, none⟩ (.slice At q kt))).setCell (p := ⟨w.heap.size, 0, none⟩) (.inl (.inl rfl)) _).setCell (p := ⟨w.heap.size, 2, none⟩) (.inl (.inl rfl)) _).setCell (p := ⟨w.heap.size + 1, 0, none⟩) (.inl (.inr rfl)) _).setCell (p := ⟨w.heap.size + 1, 1, none⟩) (.inl (.inr rfl)) _).setCell (p := ⟨w.heap.size + 1, 2, none⟩) (.inl (.inr rfl)) _)))
 have HW6 := LH (HRR.out ((w4.setCell ⟨r1, seg, none⟩ (.slice At q kt)).setCell ⟨w.heap.size, 0, none⟩ (.slice (some ⟨r1, 0, none⟩) N cv)) ((Keep.refl (fun k => k = w.heap.size ∨ k = w.heap.size + 1) (w4.setCell ⟨r1, seg, none⟩ (.slice At q kt))).setCell (p := ⟨w.heap.size, 0, none⟩) (.inl (.inl rfl)) _)).2.now
 obtain ⟨z0, z1, z2, zf⟩ := cells3 hb04
 obtain ⟨y0, y1, y2, yf⟩ := cells3 hb14
 have e1 : r1 ≠ w.heap.size := by omega
 have e2 : w.heap.size ≠ r1 := by omega
 have e3 : r1 ≠ w.heap.size + 1 := by omega
 have e4 : w.heap.size + 1 ≠ r1 := by omega
 have HSQ : Hid (((moreA a seg l).getD seg []).length = q) := LH (by rw [HMA.out]; simp [HSEG.out]; have := HM.out; have := HP.out; have := HQ.out; omega)
 have HWB : Hid ((moreA a seg l).length ≤ 1000 ∧ ∀ s ∈ moreA a seg l, s.length ≤ 1000000) := LH ⟨by have := HLEN.out; have := HNX.out; omega, fun s hs => by
  rw [HMA.out] at hs
  rcases List.mem_or_eq_of_mem_set hs with h | h
  ·rw [← HA1.out] at h; have := HLS.out s h; omega
  ·rw [h, List.length_append]; have := HM.out; have := HP.out; omega⟩
 clear hap ho hlo3 hlo4 hk4 hO4 hg4 hb04 hb14 hq hst1 hs5 hg5 HO3 HG3 HB03 HB13 HS HS3 HG2 hS5L
 have HFD : Hid (moreF a size full seg l = (full || decide (size < q) || decide (16 < N) || decide (4096 < (moreA a seg l).flatten.length))) := LH (by unfold moreF; rw [HSQ.out, HLEN.out])
 rcases hfl : full with _ | _
 ·by_cases hsz : size < q
  ·have hsd : decide (size < (q : Int)) = true := by simpa using hsz
   have HF : Hid (moreF a size full seg l = true) := LH (by rw [HFD.out, hsd]; simp)
   subst hfl
   go_wp2
   refine bodyPost_ret (v := .agg #[.slice (some ⟨r1, 0, none⟩) N cv, .int .i64 size, .bool true]) ?_ rfl ⟨some ⟨r1, 0, none⟩, cv, by rw [HLEN.out, HF.out], (HFIN.out true).1, by rw [HLEN.out]; exact (HFIN.out true).2⟩
   rw [results_cell1 rfl]; go_simp
  ·by_cases h16 : 16 < N
   ·have h16' : (16 : Int) < N := by omega
    have HF : Hid (moreF a size full seg l = true) := LH (by rw [HFD.out]; simp [h16])
    subst hfl
    go_wp2
    refine bodyPost_ret (v := .agg #[.slice (some ⟨r1, 0, none⟩) N cv, .int .i64 size, .bool true]) ?_ rfl ⟨some ⟨r1, 0, none⟩, cv, by rw [HLEN.out, HF.out], (HFIN.out true).1, by rw [HLEN.out]; exact (HFIN.out true).2⟩
    rw [results_cell1 rfl]; go_simp
   ·have h16' : ¬ (16 : Int) < N := by omega
    have HF : Hid (moreF a size full seg l = decide (4096 < (moreA a seg l).flatten.length)) := LH (by
     rw [HFD.out, hfl]
     have : decide (size < (q : Int)) = false := by simpa using hsz
     rw [this]
     simp [h16])
    subst hfl
    have HWC := LH (rwords7_calls (moreA a seg l) (some ⟨r1, 0, none⟩) cv HWB.out.1 HWB.out.2 _ (by rw [HLEN.out]; exact HW6.out))
    rw [HLEN.out] at HWC
    obtain ⟨K, hK⟩ : ∃ K, (moreA a seg l).flatten.length = K := ⟨_, rfl⟩
    rw [hK] at HWC HF
    clear hK
    go_wp2_with fail
    refine HWC.out.mono ?_
    rintro e w5 ⟨rfl, rfl⟩
    replace HF : Hid (moreF a size false seg l = decide (4096 < (K : Int))) := LH (by rw [HF.out, decide_eq_decide]; omega)
    go_wp2
    refine bodyPost_ret (v := .agg #[.slice (some ⟨r1, 0, none⟩) N cv, .int .i64 size, .bool (decide (4096 < (K : Int)))]) ?_ rfl ⟨some ⟨r1, 0, none⟩, cv, by rw [HLEN.out, HF.out], (HFIN.out _).1, by rw [HLEN.out]; exact (HFIN.out _).2⟩
    rw [results_cell1 rfl]; go_simp
 ·have HF : Hid (moreF a size full seg l = true) := LH (by rw [HFD.out, hfl]; simp)
  subst hfl
  go_wp2
  refine bodyPost_ret (v := .agg #[.slice (some ⟨r1, 0, none⟩) N cv, .int .i64 size, .bool true]) ?_ rfl ⟨some ⟨r1, 0, none⟩, cv, by rw [HLEN.out, HF.out], (HFIN.out true).1, by rw [HLEN.out]; exact (HFIN.out true).2⟩
  rw [results_cell1 rfl]; go_simp
end Go.Proofs.YtfkcpaahdlkcdaaGreat

import Derived.Test.YtfkcpaahdlkcdaaGreatM27
/-! Joined: SnG, SrD. -/
set_option linter.unusedSimpArgs false
set_option linter.unusedVariables false
namespace Go.Proofs.YtfkcpaahdlkcdaaGreat
open Go.RowKit

theorem u_takeF : Tryz.prog.underlying 164 = some (.func #[31, 46] #[43] false) := by kernel_rfl
theorem neq_nilF (f : FuncId) (w : World) : (binOp .neq 164 (.func (.func f) #[] #[]) .nilFunc).run Tryz.prog w = .ok (.bool true) w := by
  have h : (Op.equal 164 (.func (.func f) #[] #[]) .nilFunc).run Tryz.prog w = .ok false w := by
    show (Op.equalIn (9999 + 1) 164 (.func (.func f) #[] #[]) .nilFunc).run Tryz.prog w = .ok false w
    unfold Op.equalIn
    simp [run_underlying u_takeF, Result.andThen]
  simp [binOp, u_takeF, h, Result.andThen]
set_option maxRecDepth 100000 in
set_option maxHeartbeats 4000000 in
theorem take_fin1 {g : Nat} {p : SP} {d : Snd} {Fq G : Nat → Prop} {w : World} (h : SAt g p d Fq G w) (index of : Int) (hp : d.phase = 1) (A1 A2 : Option Addr) (n1 c1' n2 c2' : Nat) :
    Calls Tryz.prog 29 #[.pointer (some ⟨g, 0, none⟩), .agg #[.int .i64 6, .int .u64 d.session, .int .i64 index, .int .i64 of, .int .u32 (d.sum : Nat), .slice A1 n1 c1', .slice A2 n2 c2']] w fun e w' => ∃ b p' Fq' G', e = .returned (.slice (some ⟨b, 0, none⟩) 1 1) ∧ OneG w' b 7 d.session 0 0 d.sum ∧ SAt g p' (finD d) Fq' G' w' ∧ Keep (SF g p.rt Fq) w w' ∧ p'.rt = p.rt ∧ (∀ k, Fq' k → w.heap.size ≤ k) ∧ w.heap.size ≤ b ∧ ¬ Fq' b ∧ ∀ k, G' k → G k ∨ w.heap.size ≤ k := by
  have hd0 := (Keep.refl NoB w).alloc (.cells #[.int .i64 6, .int .u64 d.session, .int .i64 index, .int .i64 of, .int .u32 (d.sum : Nat), .slice A1 n1 c1', .slice A2 n2 c2'] 46)
  have HG := Lib.hid hd0
  have HC := Lib.hid (heap_alloc_new w (.cells #[.int .i64 6, .int .u64 d.session, .int .i64 index, .int .i64 of, .int .u32 (d.sum : Nat), .slice A1 n1 c1', .slice A2 n2 c2'] 46))
  have HSM := Lib.hid h.small
  have H := Lib.hid (h.grow hd0)
  have HPH := Lib.hid h.ok.phase
  have hsz0 := hd0.size
  have hkk : ((6 : Int) == 4) = false := rfl
  clear h hd0
  go_enter Tryz.func29, Tryz.ntmps29
  go_wp2
  generalize w.alloc (.cells #[.int .i64 6, .int .u64 d.session, .int .i64 index, .int .i64 of, .int .u32 (d.sum : Nat), .slice A1 n1 c1', .slice A2 n2 c2'] 46) = w1 at HG H HC hsz0 ⊢
  obtain ⟨c0, c1, c2, c3, c4, c5, c6, c7, c8, c9, c10, c11, c12, c13, c14, cf⟩ := cells15 H.out.cell
  obtain ⟨z0, z1, z2, z3, z4, z5, z6, zf⟩ := cells7 HC.out
  refine region_ord [0, 1, 2, 3, 4, 5, 6, 7] [7] [1, 5] [] rfl (by kernel_rfl) ?_
  refine ord_pure rfl rfl rfl rfl rfl (fun _ _ _ _ h => h) ?_ ?_ ?_ ?_ ?_
  rotate_left 2
  · intro w'; go_simp; with_reducible rfl
  · simp only [Act.put, List.setIfInBounds_toArray, List.set_cons_zero, List.set_cons_succ]; rfl
  refine ord_read rfl rfl rfl rfl rfl (fun _ _ _ _ h => h) ?_ ?_ ?_ ?_ ?_
  rotate_left 2
  · intro w' hg; have q := hg.cell z1 (fun h => h); go_simp; with_reducible rfl
  · simp only [Act.put, List.setIfInBounds_toArray, List.set_cons_zero, List.set_cons_succ]; rfl
  iterate 3
    refine ord_pure rfl rfl rfl rfl rfl (fun _ _ _ _ h => h) ?_ ?_ ?_ ?_ ?_
    rotate_left 2
    · intro w'; go_simp; with_reducible rfl
    · simp only [Act.put, List.setIfInBounds_toArray, List.set_cons_zero, List.set_cons_succ]; rfl
  refine ord_read rfl rfl rfl rfl rfl (fun _ _ _ _ h => h) ?_ ?_ ?_ ?_ ?_
  rotate_left 2
  · intro w' hg; have q := hg.cell c14 (fun h => h); go_simp; with_reducible rfl
  · simp only [Act.put, List.setIfInBounds_toArray, List.set_cons_zero, List.set_cons_succ]; rfl
  refine ord_pure rfl rfl rfl rfl rfl (fun _ _ _ _ h => h) ?_ ?_ ?_ ?_ ?_
  rotate_left 2
  · intro w'; go_simp; with_reducible rfl
  · simp only [Act.put, List.setIfInBounds_toArray, List.set_cons_zero, List.set_cons_succ]; rfl
  refine ord_set rfl rfl rfl rfl ?_ ?_ ?_ ?_ ?_
  rotate_left 2
  · go_simp; with_reducible rfl
  · simp only [Act.put, List.setIfInBounds_toArray, List.set_cons_zero, List.set_cons_succ]; rfl
  refine ord_nil ?_
  replace HG := Lib.hid HG.out.drew
  replace HC := Lib.hid (show w1.drew.heap[_]? = _ from HC.out)
  replace H := Lib.hid (H.out.grow (Keep.refl NoB w1).drew)
  replace hsz0 : w.heap.size ≤ w1.drew.heap.size := hsz0
  generalize w1.drew = w2 at HG H HC hsz0 ⊢
  clear c0 c1 c2 c3 c4 c5 c6 c7 c8 c9 c10 c11 c12 c13 c14 cf z0 z1 z2 z3 z4 z5 z6 zf
  obtain ⟨c0, c1, c2, c3, c4, c5, c6, c7, c8, c9, c10, c11, c12, c13, c14, cf⟩ := cells15 H.out.cell
  obtain ⟨z0, z1, z2, z3, z4, z5, z6, zf⟩ := cells7 HC.out
  go_wp2
  refine region_ord [0, 1, 2, 3, 4, 5, 6, 7, 8, 9, 10, 11, 12, 13, 14, 15, 16, 17] [17] [1, 8, 13] [] rfl (by kernel_rfl) ?_
  refine ord_pure rfl rfl rfl rfl rfl (fun _ _ _ _ h => h) ?_ ?_ ?_ ?_ ?_
  rotate_left 2
  · intro w'; go_simp; with_reducible rfl
  · simp only [Act.put, List.setIfInBounds_toArray, List.set_cons_zero, List.set_cons_succ]; rfl
  refine ord_read rfl rfl rfl rfl rfl (fun _ _ _ _ h => h) ?_ ?_ ?_ ?_ ?_
  rotate_left 2
  · intro w' hg; have q := hg.cell z0 (fun h => h); go_simp; with_reducible rfl
  · simp only [Act.put, List.setIfInBounds_toArray, List.set_cons_zero, List.set_cons_succ]; rfl
  iterate 2
    refine ord_pure rfl rfl rfl rfl rfl (fun _ _ _ _ h => h) ?_ ?_ ?_ ?_ ?_
    rotate_left 2
    · intro w'; go_simp; with_reducible rfl
    · simp only [Act.put, List.setIfInBounds_toArray, List.set_cons_zero, List.set_cons_succ]; rfl
  iterate 12
    refine ord_skip rfl rfl rfl rfl (fun _ _ _ _ h => h) ?_ ?_ ?_
    rotate_left 1
    · simp only [Act.put, List.setIfInBounds_toArray, List.set_cons_zero, List.set_cons_succ]; rfl
  refine ord_pure rfl rfl rfl rfl rfl (fun _ _ _ _ h => h) ?_ ?_ ?_ ?_ ?_
  rotate_left 2
  · intro w'; go_simp; with_reducible rfl
  · simp only [Act.put, List.setIfInBounds_toArray, List.set_cons_zero, List.set_cons_succ]; rfl
  refine ord_set rfl rfl rfl rfl ?_ ?_ ?_ ?_ ?_
  rotate_left 2
  · go_simp; with_reducible rfl
  · simp only [Act.put, List.setIfInBounds_toArray, List.set_cons_zero, List.set_cons_succ]; rfl
  refine ord_nil ?_
  replace HG := Lib.hid HG.out.drew
  replace HC := Lib.hid (show w2.drew.heap[_]? = _ from HC.out)
  replace H := Lib.hid (H.out.grow (Keep.refl NoB w2).drew)
  replace hsz0 : w.heap.size ≤ w2.drew.heap.size := hsz0
  generalize w2.drew = w3 at HG H HC hsz0 ⊢
  clear c0 c1 c2 c3 c4 c5 c6 c7 c8 c9 c10 c11 c12 c13 c14 cf z0 z1 z2 z3 z4 z5 z6 zf
  obtain ⟨c0, c1, c2, c3, c4, c5, c6, c7, c8, c9, c10, c11, c12, c13, c14, cf⟩ := cells15 H.out.cell
  obtain ⟨z0, z1, z2, z3, z4, z5, z6, zf⟩ := cells7 HC.out
  rw [hp] at c10
  have hnq := neq_nilF
  go_wp2
  refine region_ord [1, 2, 0, 3, 4] [0, 4] [2, 3] [] rfl (by kernel_rfl) ?_
  refine ord_pure rfl rfl rfl rfl rfl (fun _ _ _ _ h => h) ?_ ?_ ?_ ?_ ?_
  rotate_left 2
  · intro w'; go_simp; with_reducible rfl
  · simp only [Act.put, List.setIfInBounds_toArray, List.set_cons_zero, List.set_cons_succ]; rfl
  refine ord_read rfl rfl rfl rfl rfl (fun _ _ _ _ h => h) ?_ ?_ ?_ ?_ ?_
  rotate_left 2
  · intro w' hg; have q := hg.cell z0 (fun h => h); go_simp; with_reducible rfl
  · simp only [Act.put, List.setIfInBounds_toArray, List.set_cons_zero, List.set_cons_succ]; rfl
  refine ord_call rfl rfl rfl rfl rfl Tryz.func101 rfl rfl [] rfl ?_
  refine (takes_calls _).mono ?_
  rintro e w4 ⟨b4, rfl, hb4, hg4⟩
  refine ⟨_, rfl, fun _ => hg4, ?_⟩
  simp only [Act.put, List.setIfInBounds_toArray, List.set_cons_zero, List.set_cons_succ]
  replace HG := Lib.hid (HG.out.grow ((Keep.refl NoB w3).drew.grow hg4))
  replace HC := Lib.hid (Grow.heap ((Keep.refl NoB w3).drew.grow hg4) HC.out)
  replace H := Lib.hid (H.out.grow ((Keep.refl NoB w3).drew.grow hg4))
  replace hsz0 : w.heap.size ≤ w4.heap.size := HG.out.size
  clear c0 c1 c2 c3 c4 c5 c6 c7 c8 c9 c10 c11 c12 c13 c14 cf z0 z1 z2 z3 z4 z5 z6 zf
  obtain ⟨z0, z1, z2, z3, z4, z5, z6, zf⟩ := cells7 HC.out
  have hF : takesF 6 = .func (.func 163) #[] #[] := rfl
  refine ord_read rfl rfl rfl rfl rfl (fun _ _ _ _ h => h) ?_ ?_ ?_ ?_ ?_
  rotate_left 2
  · intro w' hg; have q := look_takes (Grow.heap hg hb4) 6; rw [hF] at q; go_simp; with_reducible rfl
  · simp only [Act.put, List.setIfInBounds_toArray, List.set_cons_zero, List.set_cons_succ]; rfl
  refine ord_set rfl rfl rfl rfl ?_ ?_ ?_ ?_ ?_
  rotate_left 2
  · go_simp; with_reducible rfl
  · simp only [Act.put, List.setIfInBounds_toArray, List.set_cons_zero, List.set_cons_succ]; rfl
  refine ord_nil ?_
  clear hF hb4 hg4
  go_wp2_with fail
  refine (fin_calls H.out H.out.small 6 d.session index of A1 A2 n1 c1' n2 c2').mono ?_
  rintro e w5 ⟨b5, p5, F5, G5, rfl, hO, hS, hK, hrt, hF5, hb5, hnb, hg5⟩
  have HG5 : Hid (∀ k, G5 k → G k ∨ w.heap.size ≤ k) := Lib.hid (fun k hk => (hg5 k hk).imp id (fun h => Nat.le_trans hsz0 h))
  have HO := Lib.hid hO
  have HS := Lib.hid hS
  have HK := Lib.hid ((HG.out.mono (fun _ h => h.elim)).trans hK (fun _ h => .inl h))
  have HF : Hid (∀ k, F5 k → w.heap.size ≤ k) := Lib.hid (fun k hk => Nat.le_trans hsz0 (hF5 k hk))
  have HB : Hid (w.heap.size ≤ b5) := Lib.hid (Nat.le_trans hsz0 hb5)
  have HN := Lib.hid hnb
  clear hO hS hK hF5 hb5 hnb hg5
  go_wp2
  go_ret
  exact ⟨b5, p5, F5, G5, rfl, HO.out, HS.out, HK.out, hrt, HF.out, HB.out, HN.out, HG5.out⟩

set_option maxRecDepth 100000 in
set_option maxHeartbeats 4000000 in
theorem take_fin2 {g : Nat} {p : SP} {d : Snd} {Fq G : Nat → Prop} {w : World} (h : SAt g p d Fq G w) (index of : Int) (hp : d.phase = 2) (A1 A2 : Option Addr) (n1 c1' n2 c2' : Nat) :
    Calls Tryz.prog 29 #[.pointer (some ⟨g, 0, none⟩), .agg #[.int .i64 6, .int .u64 d.session, .int .i64 index, .int .i64 of, .int .u32 (d.sum : Nat), .slice A1 n1 c1', .slice A2 n2 c2']] w fun e w' => ∃ b p' Fq' G', e = .returned (.slice (some ⟨b, 0, none⟩) 1 1) ∧ OneG w' b 7 d.session 0 0 d.sum ∧ SAt g p' (finD d) Fq' G' w' ∧ Keep (SF g p.rt Fq) w w' ∧ p'.rt = p.rt ∧ (∀ k, Fq' k → w.heap.size ≤ k) ∧ w.heap.size ≤ b ∧ ¬ Fq' b ∧ ∀ k, G' k → G k ∨ w.heap.size ≤ k := by
  have hd0 := (Keep.refl NoB w).alloc (.cells #[.int .i64 6, .int .u64 d.session, .int .i64 index, .int .i64 of, .int .u32 (d.sum : Nat), .slice A1 n1 c1', .slice A2 n2 c2'] 46)
  have HG := Lib.hid hd0
  have HC := Lib.hid (heap_alloc_new w (.cells #[.int .i64 6, .int .u64 d.session, .int .i64 index, .int .i64 of, .int .u32 (d.sum : Nat), .slice A1 n1 c1', .slice A2 n2 c2'] 46))
  have HSM := Lib.hid h.small
  have H := Lib.hid (h.grow hd0)
  have HPH := Lib.hid h.ok.phase
  have hsz0 := hd0.size
  have hkk : ((6 : Int) == 4) = false := rfl
  clear h hd0
  go_enter Tryz.func29, Tryz.ntmps29
  go_wp2
  generalize w.alloc (.cells #[.int .i64 6, .int .u64 d.session, .int .i64 index, .int .i64 of, .int .u32 (d.sum : Nat), .slice A1 n1 c1', .slice A2 n2 c2'] 46) = w1 at HG H HC hsz0 ⊢
  obtain ⟨c0, c1, c2, c3, c4, c5, c6, c7, c8, c9, c10, c11, c12, c13, c14, cf⟩ := cells15 H.out.cell
  obtain ⟨z0, z1, z2, z3, z4, z5, z6, zf⟩ := cells7 HC.out
  refine region_ord [0, 1, 2, 3, 4, 5, 6, 7] [7] [1, 5] [] rfl (by kernel_rfl) ?_
  refine ord_pure rfl rfl rfl rfl rfl (fun _ _ _ _ h => h) ?_ ?_ ?_ ?_ ?_
  rotate_left 2
  · intro w'; go_simp; with_reducible rfl
  · simp only [Act.put, List.setIfInBounds_toArray, List.set_cons_zero, List.set_cons_succ]; rfl
  refine ord_read rfl rfl rfl rfl rfl (fun _ _ _ _ h => h) ?_ ?_ ?_ ?_ ?_
  rotate_left 2
  · intro w' hg; have q := hg.cell z1 (fun h => h); go_simp; with_reducible rfl
  · simp only [Act.put, List.setIfInBounds_toArray, List.set_cons_zero, List.set_cons_succ]; rfl
  iterate 3
    refine ord_pure rfl rfl rfl rfl rfl (fun _ _ _ _ h => h) ?_ ?_ ?_ ?_ ?_
    rotate_left 2
    · intro w'; go_simp; with_reducible rfl
    · simp only [Act.put, List.setIfInBounds_toArray, List.set_cons_zero, List.set_cons_succ]; rfl
  refine ord_read rfl rfl rfl rfl rfl (fun _ _ _ _ h => h) ?_ ?_ ?_ ?_ ?_
  rotate_left 2
  · intro w' hg; have q := hg.cell c14 (fun h => h); go_simp; with_reducible rfl
  · simp only [Act.put, List.setIfInBounds_toArray, List.set_cons_zero, List.set_cons_succ]; rfl
  refine ord_pure rfl rfl rfl rfl rfl (fun _ _ _ _ h => h) ?_ ?_ ?_ ?_ ?_
  rotate_left 2
  · intro w'; go_simp; with_reducible rfl
  · simp only [Act.put, List.setIfInBounds_toArray, List.set_cons_zero, List.set_cons_succ]; rfl
  refine ord_set rfl rfl rfl rfl ?_ ?_ ?_ ?_ ?_
  rotate_left 2
  · go_simp; with_reducible rfl
  · simp only [Act.put, List.setIfInBounds_toArray, List.set_cons_zero, List.set_cons_succ]; rfl
  refine ord_nil ?_
  replace HG := Lib.hid HG.out.drew
  replace HC := Lib.hid (show w1.drew.heap[_]? = _ from HC.out)
  replace H := Lib.hid (H.out.grow (Keep.refl NoB w1).drew)
  replace hsz0 : w.heap.size ≤ w1.drew.heap.size := hsz0
  generalize w1.drew = w2 at HG H HC hsz0 ⊢
  clear c0 c1 c2 c3 c4 c5 c6 c7 c8 c9 c10 c11 c12 c13 c14 cf z0 z1 z2 z3 z4 z5 z6 zf
  obtain ⟨c0, c1, c2, c3, c4, c5, c6, c7, c8, c9, c10, c11, c12, c13, c14, cf⟩ := cells15 H.out.cell
  obtain ⟨z0, z1, z2, z3, z4, z5, z6, zf⟩ := cells7 HC.out
  go_wp2
  refine region_ord [0, 1, 2, 3, 4, 5, 6, 7, 8, 9, 10, 11, 12, 13, 14, 15, 16, 17] [17] [1, 8, 13] [] rfl (by kernel_rfl) ?_
  refine ord_pure rfl rfl rfl rfl rfl (fun _ _ _ _ h => h) ?_ ?_ ?_ ?_ ?_
  rotate_left 2
  · intro w'; go_simp; with_reducible rfl
  · simp only [Act.put, List.setIfInBounds_toArray, List.set_cons_zero, List.set_cons_succ]; rfl
  refine ord_read rfl rfl rfl rfl rfl (fun _ _ _ _ h => h) ?_ ?_ ?_ ?_ ?_
  rotate_left 2
  · intro w' hg; have q := hg.cell z0 (fun h => h); go_simp; with_reducible rfl
  · simp only [Act.put, List.setIfInBounds_toArray, List.set_cons_zero, List.set_cons_succ]; rfl
  iterate 2
    refine ord_pure rfl rfl rfl rfl rfl (fun _ _ _ _ h => h) ?_ ?_ ?_ ?_ ?_
    rotate_left 2
    · intro w'; go_simp; with_reducible rfl
    · simp only [Act.put, List.setIfInBounds_toArray, List.set_cons_zero, List.set_cons_succ]; rfl
  iterate 12
    refine ord_skip rfl rfl rfl rfl (fun _ _ _ _ h => h) ?_ ?_ ?_
    rotate_left 1
    · simp only [Act.put, List.setIfInBounds_toArray, List.set_cons_zero, List.set_cons_succ]; rfl
  refine ord_pure rfl rfl rfl rfl rfl (fun _ _ _ _ h => h) ?_ ?_ ?_ ?_ ?_
  rotate_left 2
  · intro w'; go_simp; with_reducible rfl
  · simp only [Act.put, List.setIfInBounds_toArray, List.set_cons_zero, List.set_cons_succ]; rfl
  refine ord_set rfl rfl rfl rfl ?_ ?_ ?_ ?_ ?_
  rotate_left 2
  · go_simp; with_reducible rfl
  · simp only [Act.put, List.setIfInBounds_toArray, List.set_cons_zero, List.set_cons_succ]; rfl
  refine ord_nil ?_
  replace HG := Lib.hid HG.out.drew
  replace HC := Lib.hid (show w2.drew.heap[_]? = _ from HC.out)
  replace H := Lib.hid (H.out.grow (Keep.refl NoB w2).drew)
  replace hsz0 : w.heap.size ≤ w2.drew.heap.size := hsz0
  generalize w2.drew = w3 at HG H HC hsz0 ⊢
  clear c0 c1 c2 c3 c4 c5 c6 c7 c8 c9 c10 c11 c12 c13 c14 cf z0 z1 z2 z3 z4 z5 z6 zf
  obtain ⟨c0, c1, c2, c3, c4, c5, c6, c7, c8, c9, c10, c11, c12, c13, c14, cf⟩ := cells15 H.out.cell
  obtain ⟨z0, z1, z2, z3, z4, z5, z6, zf⟩ := cells7 HC.out
  rw [hp] at c10
  have hnq := neq_nilF
  go_wp2
  refine region_ord [1, 2, 0, 3, 4] [0, 4] [2, 3] [] rfl (by kernel_rfl) ?_
  refine ord_pure rfl rfl rfl rfl rfl (fun _ _ _ _ h => h) ?_ ?_ ?_ ?_ ?_
  rotate_left 2
  · intro w'; go_simp; with_reducible rfl
  · simp only [Act.put, List.setIfInBounds_toArray, List.set_cons_zero, List.set_cons_succ]; rfl
  refine ord_read rfl rfl rfl rfl rfl (fun _ _ _ _ h => h) ?_ ?_ ?_ ?_ ?_
  rotate_left 2
  · intro w' hg; have q := hg.cell z0 (fun h => h); go_simp; with_reducible rfl
  · simp only [Act.put, List.setIfInBounds_toArray, List.set_cons_zero, List.set_cons_succ]; rfl
  refine ord_call rfl rfl rfl rfl rfl Tryz.func101 rfl rfl [] rfl ?_
  refine (takes_calls _).mono ?_
  rintro e w4 ⟨b4, rfl, hb4, hg4⟩
  refine ⟨_, rfl, fun _ => hg4, ?_⟩
  simp only [Act.put, List.setIfInBounds_toArray, List.set_cons_zero, List.set_cons_succ]
  replace HG := Lib.hid (HG.out.grow ((Keep.refl NoB w3).drew.grow hg4))
  replace HC := Lib.hid (Grow.heap ((Keep.refl NoB w3).drew.grow hg4) HC.out)
  replace H := Lib.hid (H.out.grow ((Keep.refl NoB w3).drew.grow hg4))
  replace hsz0 : w.heap.size ≤ w4.heap.size := HG.out.size
  clear c0 c1 c2 c3 c4 c5 c6 c7 c8 c9 c10 c11 c12 c13 c14 cf z0 z1 z2 z3 z4 z5 z6 zf
  obtain ⟨z0, z1, z2, z3, z4, z5, z6, zf⟩ := cells7 HC.out
  have hF : takesF 6 = .func (.func 163) #[] #[] := rfl
  refine ord_read rfl rfl rfl rfl rfl (fun _ _ _ _ h => h) ?_ ?_ ?_ ?_ ?_
  rotate_left 2
  · intro w' hg; have q := look_takes (Grow.heap hg hb4) 6; rw [hF] at q; go_simp; with_reducible rfl
  · simp only [Act.put, List.setIfInBounds_toArray, List.set_cons_zero, List.set_cons_succ]; rfl
  refine ord_set rfl rfl rfl rfl ?_ ?_ ?_ ?_ ?_
  rotate_left 2
  · go_simp; with_reducible rfl
  · simp only [Act.put, List.setIfInBounds_toArray, List.set_cons_zero, List.set_cons_succ]; rfl
  refine ord_nil ?_
  clear hF hb4 hg4
  go_wp2_with fail
  refine (fin_calls H.out H.out.small 6 d.session index of A1 A2 n1 c1' n2 c2').mono ?_
  rintro e w5 ⟨b5, p5, F5, G5, rfl, hO, hS, hK, hrt, hF5, hb5, hnb, hg5⟩
  have HG5 : Hid (∀ k, G5 k → G k ∨ w.heap.size ≤ k) := Lib.hid (fun k hk => (hg5 k hk).imp id (fun h => Nat.le_trans hsz0 h))
  have HO := Lib.hid hO
  have HS := Lib.hid hS
  have HK := Lib.hid ((HG.out.mono (fun _ h => h.elim)).trans hK (fun _ h => .inl h))
  have HF : Hid (∀ k, F5 k → w.heap.size ≤ k) := Lib.hid (fun k hk => Nat.le_trans hsz0 (hF5 k hk))
  have HB : Hid (w.heap.size ≤ b5) := Lib.hid (Nat.le_trans hsz0 hb5)
  have HN := Lib.hid hnb
  clear hO hS hK hF5 hb5 hnb hg5
  go_wp2
  go_ret
  exact ⟨b5, p5, F5, G5, rfl, HO.out, HS.out, HK.out, hrt, HF.out, HB.out, HN.out, HG5.out⟩

set_option maxRecDepth 100000 in
set_option maxHeartbeats 4000000 in
theorem take_failed {g : Nat} {p : SP} {d : Snd} {Fq G : Nat → Prop} {w : World} (h : SAt g p d Fq G w) (kind sum index of : Int) (hk : kind ≠ 4) (hp : d.phase = 3) (A1 A2 : Option Addr) (n1 c1' n2 c2' : Nat) :
    Calls Tryz.prog 29 #[.pointer (some ⟨g, 0, none⟩), .agg #[.int .i64 kind, .int .u64 d.session, .int .i64 index, .int .i64 of, .int .u32 sum, .slice A1 n1 c1', .slice A2 n2 c2']] w fun e w' => e = .returned (.slice none 0 0) ∧ Grow w w' := by
  have hd0 := (Keep.refl NoB w).alloc (.cells #[.int .i64 kind, .int .u64 d.session, .int .i64 index, .int .i64 of, .int .u32 sum, .slice A1 n1 c1', .slice A2 n2 c2'] 46)
  have HG := Lib.hid hd0
  have HC := Lib.hid (heap_alloc_new w (.cells #[.int .i64 kind, .int .u64 d.session, .int .i64 index, .int .i64 of, .int .u32 sum, .slice A1 n1 c1', .slice A2 n2 c2'] 46))
  have HSM := Lib.hid h.small
  have H := Lib.hid (h.grow hd0)
  have HPH := Lib.hid h.ok.phase
  have hsz0 := hd0.size
  have hkk : (kind == 4) = false := by simpa using hk
  clear h hd0
  go_enter Tryz.func29, Tryz.ntmps29
  go_wp2
  generalize w.alloc (.cells #[.int .i64 kind, .int .u64 d.session, .int .i64 index, .int .i64 of, .int .u32 sum, .slice A1 n1 c1', .slice A2 n2 c2'] 46) = w1 at HG H HC hsz0 ⊢
  obtain ⟨c0, c1, c2, c3, c4, c5, c6, c7, c8, c9, c10, c11, c12, c13, c14, cf⟩ := cells15 H.out.cell
  obtain ⟨z0, z1, z2, z3, z4, z5, z6, zf⟩ := cells7 HC.out
  refine region_ord [0, 1, 2, 3, 4, 5, 6, 7] [7] [1, 5] [] rfl (by kernel_rfl) ?_
  refine ord_pure rfl rfl rfl rfl rfl (fun _ _ _ _ h => h) ?_ ?_ ?_ ?_ ?_
  rotate_left 2
  · intro w'; go_simp; with_reducible rfl
  · simp only [Act.put, List.setIfInBounds_toArray, List.set_cons_zero, List.set_cons_succ]; rfl
  refine ord_read rfl rfl rfl rfl rfl (fun _ _ _ _ h => h) ?_ ?_ ?_ ?_ ?_
  rotate_left 2
  · intro w' hg; have q := hg.cell z1 (fun h => h); go_simp; with_reducible rfl
  · simp only [Act.put, List.setIfInBounds_toArray, List.set_cons_zero, List.set_cons_succ]; rfl
  iterate 3
    refine ord_pure rfl rfl rfl rfl rfl (fun _ _ _ _ h => h) ?_ ?_ ?_ ?_ ?_
    rotate_left 2
    · intro w'; go_simp; with_reducible rfl
    · simp only [Act.put, List.setIfInBounds_toArray, List.set_cons_zero, List.set_cons_succ]; rfl
  refine ord_read rfl rfl rfl rfl rfl (fun _ _ _ _ h => h) ?_ ?_ ?_ ?_ ?_
  rotate_left 2
  · intro w' hg; have q := hg.cell c14 (fun h => h); go_simp; with_reducible rfl
  · simp only [Act.put, List.setIfInBounds_toArray, List.set_cons_zero, List.set_cons_succ]; rfl
  refine ord_pure rfl rfl rfl rfl rfl (fun _ _ _ _ h => h) ?_ ?_ ?_ ?_ ?_
  rotate_left 2
  · intro w'; go_simp; with_reducible rfl
  · simp only [Act.put, List.setIfInBounds_toArray, List.set_cons_zero, List.set_cons_succ]; rfl
  refine ord_set rfl rfl rfl rfl ?_ ?_ ?_ ?_ ?_
  rotate_left 2
  · go_simp; with_reducible rfl
  · simp only [Act.put, List.setIfInBounds_toArray, List.set_cons_zero, List.set_cons_succ]; rfl
  refine ord_nil ?_
  replace HG := Lib.hid HG.out.drew
  replace HC := Lib.hid (show w1.drew.heap[_]? = _ from HC.out)
  replace H := Lib.hid (H.out.grow (Keep.refl NoB w1).drew)
  replace hsz0 : w.heap.size ≤ w1.drew.heap.size := hsz0
  generalize w1.drew = w2 at HG H HC hsz0 ⊢
  clear c0 c1 c2 c3 c4 c5 c6 c7 c8 c9 c10 c11 c12 c13 c14 cf z0 z1 z2 z3 z4 z5 z6 zf
  obtain ⟨c0, c1, c2, c3, c4, c5, c6, c7, c8, c9, c10, c11, c12, c13, c14, cf⟩ := cells15 H.out.cell
  obtain ⟨z0, z1, z2, z3, z4, z5, z6, zf⟩ := cells7 HC.out
  go_wp2
  refine region_ord [0, 1, 2, 3, 4, 5, 6, 7, 8, 9, 10, 11, 12, 13, 14, 15, 16, 17] [17] [1, 8, 13] [] rfl (by kernel_rfl) ?_
  refine ord_pure rfl rfl rfl rfl rfl (fun _ _ _ _ h => h) ?_ ?_ ?_ ?_ ?_
  rotate_left 2
  · intro w'; go_simp; with_reducible rfl
  · simp only [Act.put, List.setIfInBounds_toArray, List.set_cons_zero, List.set_cons_succ]; rfl
  refine ord_read rfl rfl rfl rfl rfl (fun _ _ _ _ h => h) ?_ ?_ ?_ ?_ ?_
  rotate_left 2
  · intro w' hg; have q := hg.cell z0 (fun h => h); go_simp; with_reducible rfl
  · simp only [Act.put, List.setIfInBounds_toArray, List.set_cons_zero, List.set_cons_succ]; rfl
  iterate 2
    refine ord_pure rfl rfl rfl rfl rfl (fun _ _ _ _ h => h) ?_ ?_ ?_ ?_ ?_
    rotate_left 2
    · intro w'; go_simp; with_reducible rfl
    · simp only [Act.put, List.setIfInBounds_toArray, List.set_cons_zero, List.set_cons_succ]; rfl
  iterate 12
    refine ord_skip rfl rfl rfl rfl (fun _ _ _ _ h => h) ?_ ?_ ?_
    rotate_left 1
    · simp only [Act.put, List.setIfInBounds_toArray, List.set_cons_zero, List.set_cons_succ]; rfl
  refine ord_pure rfl rfl rfl rfl rfl (fun _ _ _ _ h => h) ?_ ?_ ?_ ?_ ?_
  rotate_left 2
  · intro w'; go_simp; with_reducible rfl
  · simp only [Act.put, List.setIfInBounds_toArray, List.set_cons_zero, List.set_cons_succ]; rfl
  refine ord_set rfl rfl rfl rfl ?_ ?_ ?_ ?_ ?_
  rotate_left 2
  · go_simp; with_reducible rfl
  · simp only [Act.put, List.setIfInBounds_toArray, List.set_cons_zero, List.set_cons_succ]; rfl
  refine ord_nil ?_
  replace HG := Lib.hid HG.out.drew
  replace HC := Lib.hid (show w2.drew.heap[_]? = _ from HC.out)
  replace H := Lib.hid (H.out.grow (Keep.refl NoB w2).drew)
  replace hsz0 : w.heap.size ≤ w2.drew.heap.size := hsz0
  generalize w2.drew = w3 at HG H HC hsz0 ⊢
  clear c0 c1 c2 c3 c4 c5 c6 c7 c8 c9 c10 c11 c12 c13 c14 cf z0 z1 z2 z3 z4 z5 z6 zf
  obtain ⟨c0, c1, c2, c3, c4, c5, c6, c7, c8, c9, c10, c11, c12, c13, c14, cf⟩ := cells15 H.out.cell
  obtain ⟨z0, z1, z2, z3, z4, z5, z6, zf⟩ := cells7 HC.out
  rw [hp] at c10
  go_wp2
  go_ret
  exact ⟨rfl, HG.out⟩

set_option maxRecDepth 100000 in
set_option maxHeartbeats 4000000 in
theorem take_ready {g : Nat} {p : SP} {d : Snd} {Fq G : Nat → Prop} {w : World} (h : SAt g p d Fq G w) (kind sum index of : Int) (hk : kind ≠ 4) (hk6 : kind ≠ 6) (hp : d.phase = 2) (A1 A2 : Option Addr) (n1 c1' n2 c2' : Nat) :
    Calls Tryz.prog 29 #[.pointer (some ⟨g, 0, none⟩), .agg #[.int .i64 kind, .int .u64 d.session, .int .i64 index, .int .i64 of, .int .u32 sum, .slice A1 n1 c1', .slice A2 n2 c2']] w fun e w' => e = .returned (.slice none 0 0) ∧ Grow w w' := by
  have hd0 := (Keep.refl NoB w).alloc (.cells #[.int .i64 kind, .int .u64 d.session, .int .i64 index, .int .i64 of, .int .u32 sum, .slice A1 n1 c1', .slice A2 n2 c2'] 46)
  have HG := Lib.hid hd0
  have HC := Lib.hid (heap_alloc_new w (.cells #[.int .i64 kind, .int .u64 d.session, .int .i64 index, .int .i64 of, .int .u32 sum, .slice A1 n1 c1', .slice A2 n2 c2'] 46))
  have HSM := Lib.hid h.small
  have H := Lib.hid (h.grow hd0)
  have HPH := Lib.hid h.ok.phase
  have hsz0 := hd0.size
  have hkk : (kind == 4) = false := by simpa using hk
  have hkk6 : (kind == 6) = false := by simpa using hk6
  have hkn6 : (kind != 6) = true := by simpa using hk6
  have hkn4 : (kind != 4) = true := by simpa using hk
  clear h hd0
  go_enter Tryz.func29, Tryz.ntmps29
  go_wp2
  generalize w.alloc (.cells #[.int .i64 kind, .int .u64 d.session, .int .i64 index, .int .i64 of, .int .u32 sum, .slice A1 n1 c1', .slice A2 n2 c2'] 46) = w1 at HG H HC hsz0 ⊢
  obtain ⟨c0, c1, c2, c3, c4, c5, c6, c7, c8, c9, c10, c11, c12, c13, c14, cf⟩ := cells15 H.out.cell
  obtain ⟨z0, z1, z2, z3, z4, z5, z6, zf⟩ := cells7 HC.out
  refine region_ord [0, 1, 2, 3, 4, 5, 6, 7] [7] [1, 5] [] rfl (by kernel_rfl) ?_
  refine ord_pure rfl rfl rfl rfl rfl (fun _ _ _ _ h => h) ?_ ?_ ?_ ?_ ?_
  rotate_left 2
  · intro w'; go_simp; with_reducible rfl
  · simp only [Act.put, List.setIfInBounds_toArray, List.set_cons_zero, List.set_cons_succ]; rfl
  refine ord_read rfl rfl rfl rfl rfl (fun _ _ _ _ h => h) ?_ ?_ ?_ ?_ ?_
  rotate_left 2
  · intro w' hg; have q := hg.cell z1 (fun h => h); go_simp; with_reducible rfl
  · simp only [Act.put, List.setIfInBounds_toArray, List.set_cons_zero, List.set_cons_succ]; rfl
  iterate 3
    refine ord_pure rfl rfl rfl rfl rfl (fun _ _ _ _ h => h) ?_ ?_ ?_ ?_ ?_
    rotate_left 2
    · intro w'; go_simp; with_reducible rfl
    · simp only [Act.put, List.setIfInBounds_toArray, List.set_cons_zero, List.set_cons_succ]; rfl
  refine ord_read rfl rfl rfl rfl rfl (fun _ _ _ _ h => h) ?_ ?_ ?_ ?_ ?_
  rotate_left 2
  · intro w' hg; have q := hg.cell c14 (fun h => h); go_simp; with_reducible rfl
  · simp only [Act.put, List.setIfInBounds_toArray, List.set_cons_zero, List.set_cons_succ]; rfl
  refine ord_pure rfl rfl rfl rfl rfl (fun _ _ _ _ h => h) ?_ ?_ ?_ ?_ ?_
  rotate_left 2
  · intro w'; go_simp; with_reducible rfl
  · simp only [Act.put, List.setIfInBounds_toArray, List.set_cons_zero, List.set_cons_succ]; rfl
  refine ord_set rfl rfl rfl rfl ?_ ?_ ?_ ?_ ?_
  rotate_left 2
  · go_simp; with_reducible rfl
  · simp only [Act.put, List.setIfInBounds_toArray, List.set_cons_zero, List.set_cons_succ]; rfl
  refine ord_nil ?_
  replace HG := Lib.hid HG.out.drew
  replace HC := Lib.hid (show w1.drew.heap[_]? = _ from HC.out)
  replace H := Lib.hid (H.out.grow (Keep.refl NoB w1).drew)
  replace hsz0 : w.heap.size ≤ w1.drew.heap.size := hsz0
  generalize w1.drew = w2 at HG H HC hsz0 ⊢
  clear c0 c1 c2 c3 c4 c5 c6 c7 c8 c9 c10 c11 c12 c13 c14 cf z0 z1 z2 z3 z4 z5 z6 zf
  obtain ⟨c0, c1, c2, c3, c4, c5, c6, c7, c8, c9, c10, c11, c12, c13, c14, cf⟩ := cells15 H.out.cell
  obtain ⟨z0, z1, z2, z3, z4, z5, z6, zf⟩ := cells7 HC.out
  go_wp2
  refine region_ord [0, 1, 2, 3, 4, 5, 6, 7, 8, 9, 10, 11, 12, 13, 14, 15, 16, 17] [17] [1, 8, 13] [] rfl (by kernel_rfl) ?_
  refine ord_pure rfl rfl rfl rfl rfl (fun _ _ _ _ h => h) ?_ ?_ ?_ ?_ ?_
  rotate_left 2
  · intro w'; go_simp; with_reducible rfl
  · simp only [Act.put, List.setIfInBounds_toArray, List.set_cons_zero, List.set_cons_succ]; rfl
  refine ord_read rfl rfl rfl rfl rfl (fun _ _ _ _ h => h) ?_ ?_ ?_ ?_ ?_
  rotate_left 2
  · intro w' hg; have q := hg.cell z0 (fun h => h); go_simp; with_reducible rfl
  · simp only [Act.put, List.setIfInBounds_toArray, List.set_cons_zero, List.set_cons_succ]; rfl
  iterate 2
    refine ord_pure rfl rfl rfl rfl rfl (fun _ _ _ _ h => h) ?_ ?_ ?_ ?_ ?_
    rotate_left 2
    · intro w'; go_simp; with_reducible rfl
    · simp only [Act.put, List.setIfInBounds_toArray, List.set_cons_zero, List.set_cons_succ]; rfl
  iterate 12
    refine ord_skip rfl rfl rfl rfl (fun _ _ _ _ h => h) ?_ ?_ ?_
    rotate_left 1
    · simp only [Act.put, List.setIfInBounds_toArray, List.set_cons_zero, List.set_cons_succ]; rfl
  refine ord_pure rfl rfl rfl rfl rfl (fun _ _ _ _ h => h) ?_ ?_ ?_ ?_ ?_
  rotate_left 2
  · intro w'; go_simp; with_reducible rfl
  · simp only [Act.put, List.setIfInBounds_toArray, List.set_cons_zero, List.set_cons_succ]; rfl
  refine ord_set rfl rfl rfl rfl ?_ ?_ ?_ ?_ ?_
  rotate_left 2
  · go_simp; with_reducible rfl
  · simp only [Act.put, List.setIfInBounds_toArray, List.set_cons_zero, List.set_cons_succ]; rfl
  refine ord_nil ?_
  replace HG := Lib.hid HG.out.drew
  replace HC := Lib.hid (show w2.drew.heap[_]? = _ from HC.out)
  replace H := Lib.hid (H.out.grow (Keep.refl NoB w2).drew)
  replace hsz0 : w.heap.size ≤ w2.drew.heap.size := hsz0
  generalize w2.drew = w3 at HG H HC hsz0 ⊢
  clear c0 c1 c2 c3 c4 c5 c6 c7 c8 c9 c10 c11 c12 c13 c14 cf z0 z1 z2 z3 z4 z5 z6 zf
  obtain ⟨c0, c1, c2, c3, c4, c5, c6, c7, c8, c9, c10, c11, c12, c13, c14, cf⟩ := cells15 H.out.cell
  obtain ⟨z0, z1, z2, z3, z4, z5, z6, zf⟩ := cells7 HC.out
  rw [hp] at c10
  go_wp2
  go_ret
  exact ⟨rfl, HG.out⟩

set_option maxRecDepth 100000 in
set_option maxHeartbeats 4000000 in
theorem take_foreign {g : Nat} {p : SP} {d : Snd} {Fq G : Nat → Prop} {w : World} (h : SAt g p d Fq G w) (kind session sum index of : Int) (hk : kind ≠ 4) (hs : session ≠ d.session) (A1 A2 : Option Addr) (n1 c1' n2 c2' : Nat) :
    Calls Tryz.prog 29 #[.pointer (some ⟨g, 0, none⟩), .agg #[.int .i64 kind, .int .u64 session, .int .i64 index, .int .i64 of, .int .u32 sum, .slice A1 n1 c1', .slice A2 n2 c2']] w fun e w' => e = .returned (.slice none 0 0) ∧ Grow w w' := by
  have hd0 := (Keep.refl NoB w).alloc (.cells #[.int .i64 kind, .int .u64 session, .int .i64 index, .int .i64 of, .int .u32 sum, .slice A1 n1 c1', .slice A2 n2 c2'] 46)
  have HG := Lib.hid hd0
  have HC := Lib.hid (heap_alloc_new w (.cells #[.int .i64 kind, .int .u64 session, .int .i64 index, .int .i64 of, .int .u32 sum, .slice A1 n1 c1', .slice A2 n2 c2'] 46))
  have HSM := Lib.hid h.small
  have H := Lib.hid (h.grow hd0)
  have HPH := Lib.hid h.ok.phase
  have hsz0 := hd0.size
  have hkk : (kind == 4) = false := by simpa using hk
  have hss : (session == d.session) = false := by simpa using hs
  clear h hd0
  go_enter Tryz.func29, Tryz.ntmps29
  go_wp2
  generalize w.alloc (.cells #[.int .i64 kind, .int .u64 session, .int .i64 index, .int .i64 of, .int .u32 sum, .slice A1 n1 c1', .slice A2 n2 c2'] 46) = w1 at HG H HC hsz0 ⊢
  obtain ⟨c0, c1, c2, c3, c4, c5, c6, c7, c8, c9, c10, c11, c12, c13, c14, cf⟩ := cells15 H.out.cell
  obtain ⟨z0, z1, z2, z3, z4, z5, z6, zf⟩ := cells7 HC.out
  refine region_ord [0, 1, 2, 3, 4, 5, 6, 7] [7] [1, 5] [] rfl (by kernel_rfl) ?_
  refine ord_pure rfl rfl rfl rfl rfl (fun _ _ _ _ h => h) ?_ ?_ ?_ ?_ ?_
  rotate_left 2
  · intro w'; go_simp; with_reducible rfl
  · simp only [Act.put, List.setIfInBounds_toArray, List.set_cons_zero, List.set_cons_succ]; rfl
  refine ord_read rfl rfl rfl rfl rfl (fun _ _ _ _ h => h) ?_ ?_ ?_ ?_ ?_
  rotate_left 2
  · intro w' hg; have q := hg.cell z1 (fun h => h); go_simp; with_reducible rfl
  · simp only [Act.put, List.setIfInBounds_toArray, List.set_cons_zero, List.set_cons_succ]; rfl
  iterate 3
    refine ord_pure rfl rfl rfl rfl rfl (fun _ _ _ _ h => h) ?_ ?_ ?_ ?_ ?_
    rotate_left 2
    · intro w'; go_simp; with_reducible rfl
    · simp only [Act.put, List.setIfInBounds_toArray, List.set_cons_zero, List.set_cons_succ]; rfl
  refine ord_read rfl rfl rfl rfl rfl (fun _ _ _ _ h => h) ?_ ?_ ?_ ?_ ?_
  rotate_left 2
  · intro w' hg; have q := hg.cell c14 (fun h => h); go_simp; with_reducible rfl
  · simp only [Act.put, List.setIfInBounds_toArray, List.set_cons_zero, List.set_cons_succ]; rfl
  refine ord_pure rfl rfl rfl rfl rfl (fun _ _ _ _ h => h) ?_ ?_ ?_ ?_ ?_
  rotate_left 2
  · intro w'; go_simp; with_reducible rfl
  · simp only [Act.put, List.setIfInBounds_toArray, List.set_cons_zero, List.set_cons_succ]; rfl
  refine ord_set rfl rfl rfl rfl ?_ ?_ ?_ ?_ ?_
  rotate_left 2
  · go_simp; with_reducible rfl
  · simp only [Act.put, List.setIfInBounds_toArray, List.set_cons_zero, List.set_cons_succ]; rfl
  refine ord_nil ?_
  replace HG := Lib.hid HG.out.drew
  replace HC := Lib.hid (show w1.drew.heap[_]? = _ from HC.out)
  replace H := Lib.hid (H.out.grow (Keep.refl NoB w1).drew)
  replace hsz0 : w.heap.size ≤ w1.drew.heap.size := hsz0
  generalize w1.drew = w2 at HG H HC hsz0 ⊢
  clear c0 c1 c2 c3 c4 c5 c6 c7 c8 c9 c10 c11 c12 c13 c14 cf z0 z1 z2 z3 z4 z5 z6 zf
  obtain ⟨c0, c1, c2, c3, c4, c5, c6, c7, c8, c9, c10, c11, c12, c13, c14, cf⟩ := cells15 H.out.cell
  obtain ⟨z0, z1, z2, z3, z4, z5, z6, zf⟩ := cells7 HC.out
  go_wp2
  refine region_ord [0, 1, 2, 3, 4, 5, 6, 7, 8, 9, 10, 11, 12, 13, 14, 15, 16, 17] [17] [1, 8, 13] [] rfl (by kernel_rfl) ?_
  refine ord_pure rfl rfl rfl rfl rfl (fun _ _ _ _ h => h) ?_ ?_ ?_ ?_ ?_
  rotate_left 2
  · intro w'; go_simp; with_reducible rfl
  · simp only [Act.put, List.setIfInBounds_toArray, List.set_cons_zero, List.set_cons_succ]; rfl
  refine ord_read rfl rfl rfl rfl rfl (fun _ _ _ _ h => h) ?_ ?_ ?_ ?_ ?_
  rotate_left 2
  · intro w' hg; have q := hg.cell z0 (fun h => h); go_simp; with_reducible rfl
  · simp only [Act.put, List.setIfInBounds_toArray, List.set_cons_zero, List.set_cons_succ]; rfl
  iterate 2
    refine ord_pure rfl rfl rfl rfl rfl (fun _ _ _ _ h => h) ?_ ?_ ?_ ?_ ?_
    rotate_left 2
    · intro w'; go_simp; with_reducible rfl
    · simp only [Act.put, List.setIfInBounds_toArray, List.set_cons_zero, List.set_cons_succ]; rfl
  iterate 12
    refine ord_skip rfl rfl rfl rfl (fun _ _ _ _ h => h) ?_ ?_ ?_
    rotate_left 1
    · simp only [Act.put, List.setIfInBounds_toArray, List.set_cons_zero, List.set_cons_succ]; rfl
  refine ord_pure rfl rfl rfl rfl rfl (fun _ _ _ _ h => h) ?_ ?_ ?_ ?_ ?_
  rotate_left 2
  · intro w'; go_simp; with_reducible rfl
  · simp only [Act.put, List.setIfInBounds_toArray, List.set_cons_zero, List.set_cons_succ]; rfl
  refine ord_set rfl rfl rfl rfl ?_ ?_ ?_ ?_ ?_
  rotate_left 2
  · go_simp; with_reducible rfl
  · simp only [Act.put, List.setIfInBounds_toArray, List.set_cons_zero, List.set_cons_succ]; rfl
  refine ord_nil ?_
  replace HG := Lib.hid HG.out.drew
  replace HC := Lib.hid (show w2.drew.heap[_]? = _ from HC.out)
  replace H := Lib.hid (H.out.grow (Keep.refl NoB w2).drew)
  replace hsz0 : w.heap.size ≤ w2.drew.heap.size := hsz0
  generalize w2.drew = w3 at HG H HC hsz0 ⊢
  clear c0 c1 c2 c3 c4 c5 c6 c7 c8 c9 c10 c11 c12 c13 c14 cf z0 z1 z2 z3 z4 z5 z6 zf
  obtain ⟨c0, c1, c2, c3, c4, c5, c6, c7, c8, c9, c10, c11, c12, c13, c14, cf⟩ := cells15 H.out.cell
  obtain ⟨z0, z1, z2, z3, z4, z5, z6, zf⟩ := cells7 HC.out
  go_wp2
  go_ret
  exact ⟨rfl, HG.out⟩

end Go.Proofs.YtfkcpaahdlkcdaaGreat
set_option linter.unusedSimpArgs false
set_option linter.unusedVariables false
namespace Go.Proofs.YtfkcpaahdlkcdaaGreat
open Go.RowKit

theorem okU_wf {l : List Int} (h : ∀ x ∈ l, (Lit.int .u8 x).wf = true) : okU l := fun x hx => by
  simpa [Lit.wf, show IntKind.u8.min = 0 from rfl, show IntKind.u8.max = 255 from rfl] using h x hx
theorem fin_st (d : Snd) : (finD d).session = d.session ∧ (finD d).sum = d.sum ∧ (finD d).sz = d.sz ∧ (finD d).ch = d.ch ∧ (finD d).phase = 2 ∧ (finD d).err = 0 ∧ (finD d).tm = [] ∧ (finD d).acked = fullB d.tries.length d.tries.length := by
  obtain ⟨h1, h2, h3, h4, h5, h6, h7⟩ := knD_st (fullB d.tries.length d.tries.length) d.acked (ackD d (fullB d.tries.length d.tries.length)) d.tries.length
  unfold finD
  exact ⟨h1, h2, h5, h4, rfl, rfl, rfl, h3⟩
theorem cnt_full (n p : Nat) : ∀ k, p + k ≤ n → cntB (fullB n n) p k = k
  | 0, _ => rfl
  | k + 1, h => by
    unfold cntB
    rw [cnt_full n p k (by omega), fullB_get n n (Nat.le_refl _), if_pos (by simp; omega)]
/-- What is kept while calls go on: all of the call's own, and a block of it. -/
theorem SAt.step2 {g : Nat} {p p' : SP} {Fq Fq' : Nat → Prop} {W w w' : World} (h1 : Grow W w) (h2 : ∀ k, SF g p.rt Fq k → W.heap.size ≤ k) (hK : Keep (SF g p.rt Fq) w w') (hF : ∀ k, Fq' k → w.heap.size ≤ k) (hr : p'.rt = p.rt) : Grow W w' ∧ ∀ k, SF g p'.rt Fq' k → W.heap.size ≤ k := by
  refine ⟨h1.trans hK (fun i hi => .inr (h2 i hi)), fun k hk => ?_⟩
  rcases hk with e | e | e
  · exact h2 k (.inl e)
  · rw [hr] at e; exact h2 k (.inr (.inl e))
  · have := h1.size; have := hF k e; omega
theorem SAt.other {g : Nat} {p p' : SP} {Fq Fq' : Nat → Prop} {w : World} {B : Nat} (h : ¬ SF g p.rt Fq B) (hB : B < w.heap.size) (hF : ∀ k, Fq' k → w.heap.size ≤ k) (hr : p'.rt = p.rt) : ¬ SF g p'.rt Fq' B := fun hk => by
  rcases hk with e | e | e
  · exact h (.inl e)
  · rw [hr] at e; exact h (.inr (.inl e))
  · have := hF B e; omega

set_option maxRecDepth 100000 in
set_option maxHeartbeats 8000000 in
theorem sendEnds_calls (session : Int) (A : Option Addr) (c : Nat) (l : List Int) (k j n : Int) (fin : Bool) (W : World) (h : SliceR 1 (.slice A l.length c) l.length (u8s l) W) (hu : okU l) (hs0 : 0 ≤ session) (hs1 : session ≤ 18446744073709551615) (hk : 0 ≤ k ∧ k ≤ 255) (hj : 0 ≤ j ∧ j ≤ 255) (hn : 0 ≤ n ∧ n ≤ 255) :
    Calls Tryz.prog 7 #[.int .u64 session, .slice A l.length c, .int .u8 k, .int .u8 j, .bool fin, .int .u8 n] W fun e w' => e = .returned (.bool true) ∧ Grow W w' := by
  obtain ⟨hn0, hn1⟩ := hn
  by_cases hlen : 100 < l.length
  · have hgt : (100 : Int) < ((l.length : Nat) : Int) := by omega
    clear h hu hk hj
    go_enter Tryz.func7, Tryz.ntmps7
    go_wp2_with fail
    refine (known_true _).mono ?_
    rintro e w1 ⟨rfl, hg⟩
    have HG := Lib.hid hg
    clear hg
    go_wp2
    go_ret
    exact ⟨rfl, HG.out⟩
  have hgt : ¬ ((100 : Int) < ((l.length : Nat) : Int)) := by omega
  have HBT := Lib.hid (bent_calls l A c k W h (by omega) hu hk.1 hk.2)
  have HKJ := Lib.hid (And.intro hk hj)
  have HS01 := Lib.hid (And.intro hs0 hs1)
  clear h hu hk hj hlen hs0 hs1
  go_enter Tryz.func7, Tryz.ntmps7
  go_wp2_with fail
  refine HBT.out.mono ?_
  rintro e w1 ⟨a, A1, c1, rfl, hg, hoa, hrows⟩
  have HG := Lib.hid hg
  have HO := Lib.hid hoa
  have HR := Lib.hid hrows
  clear hg hoa hrows HBT
  go_wp2_with fail
  refine (config_calls k j _ HKJ.out.1 HKJ.out.2).mono ?_
  rintro e w2 ⟨rfl, hg⟩
  replace HG := Lib.hid (HG.out.grow hg)
  replace HR := Lib.hid (HR.out.grow hg)
  clear hg
  have HCF := Lib.hid (config_ok k j HKJ.out.1 HKJ.out.2)
  go_wp2_with fail
  by_cases hchk : checkP a = 0
  case neg =>
    refine (snew_err session a HO.out hchk HCF.out A1 c1 w2 HR.out).mono ?_
    rintro e w3 ⟨rfl, hg⟩
    replace HG := Lib.hid (HG.out.grow hg)
    have hcb : (checkP a != 0) = true := by simp [hchk]
    clear hg hchk
    go_wp2_with fail
    refine (known_true _).mono ?_
    rintro e w4 ⟨rfl, hg⟩
    replace HG := Lib.hid (HG.out.grow hg)
    clear hg
    go_wp2
    go_ret
    exact ⟨rfl, HG.out⟩
  refine (snew_calls session HS01.out.1 HS01.out.2 a HO.out hchk HCF.out A1 c1 w2 HR.out).mono ?_
  rintro e w3 ⟨g, p, Fq, G, rfl, hS, hg, hsf, _⟩
  obtain ⟨d, hd⟩ : ∃ d, newD session a (1 + k % 5) (1 + k / 16) (1 + j % 40) 1048576 = d := ⟨_, rfl⟩
  rw [hd] at hS
  have hp : d.phase = 1 := by rw [← hd]; rfl
  have hss : d.session = session := by rw [← hd]; rfl
  have HS := Lib.hid hS
  have HSF : Hid (∀ k, SF g p.rt Fq k → W.heap.size ≤ k) := Lib.hid (fun k hk => Nat.le_trans HG.out.size (hsf k hk))
  replace HG := Lib.hid (HG.out.grow hg)
  have HP := Lib.hid hp
  clear hS hg hsf hd hp hchk HR HO HCF HS01
  obtain rfl := hss
  go_wp2_with fail
  refine (manifest_calls HS.out).mono ?_
  rintro e w4 ⟨Am, cm, rfl, hg, _⟩
  replace HS := Lib.hid (HS.out.grow hg)
  replace HG := Lib.hid (HG.out.grow hg)
  have hg2 := ((Keep.refl NoB w4).alloc (.cells #[.int .u64 d.session, .slice Am d.sz.length cm, .int .u32 (d.sum : Nat)] 40)).alloc (.cells #[.int .i64 6, .int .u64 d.session, .int .i64 0, .int .i64 0, .int .u32 (d.sum : Nat), .slice none 0 0, .slice none 0 0] 46)
  have hgx := (Keep.refl NoB w4).alloc (.cells #[.int .u64 d.session, .slice Am d.sz.length cm, .int .u32 (d.sum : Nat)] 40)
  have h2a := two_alloc w4 (.cells #[.int .u64 d.session, .slice Am d.sz.length cm, .int .u32 (d.sum : Nat)] 40) (.cells #[.int .i64 6, .int .u64 d.session, .int .i64 0, .int .i64 0, .int .u32 (d.sum : Nat), .slice none 0 0, .slice none 0 0] 46)
  have HC := Lib.hid h2a.2.1
  have HSZ := Lib.hid h2a.2.2
  have HWB : Hid (W.heap.size ≤ w4.heap.size + 1) := Lib.hid (Nat.le_succ_of_le HG.out.size)
  have HNS : Hid (¬ SF g p.rt Fq (w4.heap.size + 1)) := Lib.hid (fun hk => by have := HS.out.small _ hk; omega)
  have HNG : Hid (¬ G (w4.heap.size + 1)) := Lib.hid (fun hk => by have := HS.out.ro.lt hk; omega)
  replace HS := Lib.hid (HS.out.grow hg2)
  replace HG := Lib.hid (HG.out.grow hg2)
  clear hg h2a hg2 hgx
  cases fin with
  | false =>
    go_wp2_with fail
    refine (cancel_yes HS.out HP.out).mono ?_
    rintro e w5 ⟨b, q, F5, rfl, hO, hS, hK, hF5, hb, hnb⟩
    have hst := SAt.step2 (p' := { p with q := q }) HG.out HSF.out hK hF5 rfl
    replace HG := Lib.hid hst.1
    replace HS := Lib.hid hS
    have hsz := HSZ.out
    replace HC := Lib.hid ((hK.block _ (by omega) HNS.out).trans HC.out)
    have HO := Lib.hid hO
    clear hst hS hK hF5 hb hnb hsz hO
    go_wp2_with fail
    refine (known_true _).mono ?_
    rintro e w6 ⟨rfl, hg⟩
    replace HG := Lib.hid (HG.out.grow hg)
    replace HS := Lib.hid (HS.out.grow hg)
    replace HC := Lib.hid (Grow.heap hg HC.out)
    replace HO := Lib.hid (Grow.heap hg HO.out)
    have q0 : w6.cell? ⟨b, 0, none⟩ = some (.int .i64 8) := (cells7 HO.out).1
    clear hg
    go_wp2_with fail
    refine (cancel_no HS.out (by show (3 : Int) ≠ 1; omega)).mono ?_
    rintro e w7 ⟨rfl, rfl⟩
    go_wp2_with fail
    refine (tick_no HS.out (by show (3 : Int) ≠ 1; omega) n).mono ?_
    rintro e w7 ⟨rfl, rfl⟩
    obtain ⟨z0, z1, z2, z3, z4, z5, z6, zf⟩ := cells7 HC.out
    go_wp2_with fail
    refine (take_failed HS.out 6 (d.sum : Nat) 0 0 (by omega) rfl none none 0 0 0 0).mono ?_
    rintro e w7 ⟨rfl, hg⟩
    replace HG := Lib.hid (HG.out.grow hg)
    replace HS := Lib.hid (HS.out.grow hg)
    clear hg z0 z1 z2 z3 z4 z5 z6 zf q0
    go_wp2_with fail
    refine (status_calls HS.out).mono ?_
    rintro e w8 ⟨rfl, hg⟩
    replace HG := Lib.hid (HG.out.grow hg)
    have hst1 := st_1
    rw [show (endD d 3 34).err = 34 from rfl]
    clear hg
    go_wp2
    go_ret
    exact ⟨rfl, HG.out⟩
  | true =>
    go_wp2_with fail
    obtain ⟨z0, z1, z2, z3, z4, z5, z6, zf⟩ := cells7 HC.out
    refine (take_fin1 HS.out 0 0 HP.out none none 0 0 0 0).mono ?_
    rintro e w5 ⟨b5, p5, F5, G5, rfl, hO, hS, hK, hrt, hF5, hb5, hnb, hg5⟩
    have hst := SAt.step2 (p' := p5) HG.out HSF.out hK hF5 hrt
    have hsz := HSZ.out
    have HSM := Lib.hid HS.out.small
    have hB := SAt.other (p' := p5) HNS.out (by omega) hF5 hrt
    have hBG : ¬ G5 (w4.heap.size + 1) := fun hk => by
      rcases hg5 _ hk with e | e
      · exact HNG.out e
      · omega
    replace HC := Lib.hid ((hK.block _ (by omega) HNS.out).trans HC.out)
    have hb5n : ¬ SF g p5.rt F5 b5 := fun hk => by
      rcases hk with e | e | e
      · have := HSM.out _ (.inl e); omega
      · rw [hrt] at e; have := HSM.out _ (.inr (.inl e)); omega
      · exact hnb e
    have hszB : w4.heap.size + 1 < w5.heap.size := by have := hK.size; omega
    replace HG := Lib.hid hst.1
    replace HSF := Lib.hid hst.2
    replace HNS := Lib.hid hB
    replace HNG := Lib.hid hBG
    obtain ⟨e1, e2, e3, e4, e5, e6, e7, e8⟩ := fin_st d
    generalize finD d = d5 at hS e1 e2 e3 e4 e5 e6 e7 e8
    have ht := take_fin2 hS 0 0 e5 none none 0 0 0 0
    rw [e1, e2] at ht
    have HT := Lib.hid ht
    have HO := Lib.hid hO
    replace HS := Lib.hid hS
    have HN5 := Lib.hid hb5n
    have HSB := Lib.hid hszB
    have HE := Lib.hid (And.intro e1 e2)
    clear hst hS hK hF5 hb5 hnb hg5 hsz hO hB hBG hb5n hszB hrt ht e1 e2 e3 e4 e5 e6 e7 e8 z0 z1 z2 z3 z4 z5 z6 zf HSZ
    obtain ⟨z0, z1, z2, z3, z4, z5, z6, zf⟩ := cells7 HC.out
    go_wp2_with fail
    refine HT.out.mono ?_
    rintro e w6 ⟨b6, p6, F6, G6, rfl, hO, hS, hK, hrt, hF6, hb6, hnb, hg6⟩
    have hst := SAt.step2 (p' := p6) HG.out HSF.out hK hF6 hrt
    have hB := SAt.other (p' := p6) HNS.out HSB.out hF6 hrt
    have hBG : ¬ G6 (w4.heap.size + 1) := fun hk => by
      rcases hg6 _ hk with e | e
      · exact HNG.out e
      · have := HSB.out; omega
    replace HC := Lib.hid ((hK.block _ HSB.out HNS.out).trans HC.out)
    have hO5 := (hK.block _ (Array.getElem?_eq_some_iff.1 HO.out).1 HN5.out).trans HO.out
    replace HG := Lib.hid hst.1
    obtain ⟨e1, e2, e3, e4, e5, e6, e7, e8⟩ := fin_st d5
    have htl := hS.ok.tlen
    have htl5 := HS.out.ok.tlen
    generalize finD d5 = d6 at hS e1 e2 e3 e4 e5 e6 e7 e8 htl
    have hcnt : (cntB d6.acked (pagesN d6.sz) d6.ch.length : Nat) = d6.ch.length := by
      rw [e8]
      refine cnt_full _ _ _ ?_
      rw [e3, e4]
      omega
    have hne5 : b5 ≠ w4.heap.size + 1 := fun e => by
      have q5 := HC.out
      rw [← e, hO5] at q5
      simp at q5
    have hne6 : b6 ≠ w4.heap.size + 1 := by have := HSB.out; omega
    have hkB : Keep (fun q => q = w4.heap.size + 1) w6 (w6.setCell ⟨w4.heap.size + 1, 0, none⟩ (.int .i64 8)) := (Keep.refl (fun q => q = w4.heap.size + 1) w6).setCell (p := ⟨w4.heap.size + 1, 0, none⟩) (.inl rfl) _
    have hS7 := hS.keep hkB (fun k hk e => hB (e ▸ hk)) (fun k hk e => hBG (e ▸ hk))
    have hO57 := (hkB.block _ (Array.getElem?_eq_some_iff.1 hO5).1 hne5).trans hO5
    have hO67 := (hkB.block _ (Array.getElem?_eq_some_iff.1 hO).1 hne6).trans hO
    have hC7 : (w6.setCell ⟨w4.heap.size + 1, 0, none⟩ (.int .i64 8)).heap[w4.heap.size + 1]? = some (.cells #[.int .i64 8, .int .u64 d.session, .int .i64 0, .int .i64 0, .int .u32 (d.sum : Nat), .slice none 0 0, .slice none 0 0] 46 (0, 0)) := by
      simp only [World.setCell, Array.getElem?_modify]
      simp [HC.out]
    have hG7 : Grow W (w6.setCell ⟨w4.heap.size + 1, 0, none⟩ (.int .i64 8)) := HG.out.setCell (p := ⟨w4.heap.size + 1, 0, none⟩) (.inr HWB.out) _
    have ht := take_ready hS7 8 (d.sum : Nat) 0 0 (by omega) (by omega) e5 none none 0 0 0 0
    rw [e1, HE.out.1] at ht
    have HFZ := Lib.hid (And.intro (cells7 HC.out).1 (frozen0 0 HC.out))
    have HT7 := Lib.hid ht
    replace HG := Lib.hid hG7
    replace HS := Lib.hid hS7
    replace HC := Lib.hid hC7
    have HO5 := Lib.hid hO57
    have HO6 := Lib.hid hO67
    have HCN := Lib.hid hcnt
    have HE5 := Lib.hid (And.intro e5 e7)
    obtain ⟨y0, hfz⟩ := HFZ.out
    clear z0 z1 z2 z3 z4 z5 z6 zf
    obtain ⟨z0, z1, z2, z3, z4, z5, z6, zf⟩ := cells7 HC.out
    clear hst hS hK hF6 hb6 hnb hg6 hO hB hBG hrt ht e1 e2 e3 e4 e5 e6 e7 e8 htl htl5 hcnt hne5 hne6 hkB hS7 hO57 hO67 hC7 hG7 hO5 HT HFZ HSF HNS HNG HN5 HSB
    go_wp2_with fail
    refine HT7.out.mono ?_
    rintro e w7 ⟨rfl, hg⟩
    replace HG := Lib.hid (HG.out.grow hg)
    replace HS := Lib.hid (HS.out.grow hg)
    replace HO5 := Lib.hid (Grow.heap hg HO5.out)
    replace HO6 := Lib.hid (Grow.heap hg HO6.out)
    clear hg z0 z1 z2 z3 z4 z5 z6 zf hfz y0
    go_wp2_with fail
    refine (status_calls HS.out).mono ?_
    rintro e w8 ⟨rfl, hg⟩
    rw [HCN.out, HE5.out.1]
    replace HG := Lib.hid (HG.out.grow hg)
    replace HS := Lib.hid (HS.out.grow hg)
    replace HO5 := Lib.hid (Grow.heap hg HO5.out)
    replace HO6 := Lib.hid (Grow.heap hg HO6.out)
    have hga := (Keep.refl NoB w8).alloc (.cells #[.int .i64 2, .int .u16 d6.err, .int .i64 d6.ch.length, .int .i64 d6.ch.length] 48)
    have HST := Lib.hid (heap_alloc_new w8 (.cells #[.int .i64 2, .int .u16 d6.err, .int .i64 d6.ch.length, .int .i64 d6.ch.length] 48))
    replace HG := Lib.hid (HG.out.grow hga)
    replace HS := Lib.hid (HS.out.grow hga)
    replace HO5 := Lib.hid (Grow.heap hga HO5.out)
    replace HO6 := Lib.hid (Grow.heap hga HO6.out)
    clear hg hga
    go_wp2_with fail
    refine (known_true _).mono ?_
    rintro e w9 ⟨rfl, hg⟩
    replace HG := Lib.hid (HG.out.grow hg)
    replace HS := Lib.hid (HS.out.grow hg)
    replace HST := Lib.hid (Grow.heap hg HST.out)
    have q5 : w9.cell? ⟨b5, 0, none⟩ = some (.int .i64 7) := (cells7 (Grow.heap hg HO5.out)).1
    have q6 : w9.cell? ⟨b6, 0, none⟩ = some (.int .i64 7) := (cells7 (Grow.heap hg HO6.out)).1
    have s0 : w9.cell? ⟨w8.heap.size, 0, none⟩ = _ := World.news_of_block HST.out 0 _ rfl
    have s2 : w9.cell? ⟨w8.heap.size, 2, none⟩ = _ := World.news_of_block HST.out 2 _ rfl
    have s3 : w9.cell? ⟨w8.heap.size, 3, none⟩ = _ := World.news_of_block HST.out 3 _ rfl
    clear hg
    go_wp2_with fail
    refine (tick_no HS.out (by rw [HE5.out.1]; omega) n).mono ?_
    rintro e w10 ⟨rfl, rfl⟩
    go_wp2_with fail
    refine (waits_calls HS.out).mono ?_
    rintro e w10 ⟨rfl, rfl⟩
    rw [HE5.out.2]
    go_wp2_with fail
    refine (cancel_no HS.out (by rw [HE5.out.1]; omega)).mono ?_
    rintro e w10 ⟨rfl, rfl⟩
    go_wp2
    go_ret
    exact ⟨rfl, HG.out⟩
end Go.Proofs.YtfkcpaahdlkcdaaGreat

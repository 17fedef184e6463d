import Derived.Test.YtfkcpaahdlkcdaaGreatMSendWindow01
/-! Joined: SrE, StI, StJ, StK. -/
set_option linter.unusedSimpArgs false
set_option linter.unusedVariables false
namespace Go.Proofs.YtfkcpaahdlkcdaaGreat
open Go.RowKit
section
variable {P : Program} {ops : Array Oper} {Q : Exit → Act → World → Prop} {ds : List Nat} {S : Nat → Prop} {R : Act → World → Prop} {acts reads : List Nat} {rest : List Nat} {i : Nat} {o : Oper} {a : Act} {w : World}
theorem ord_callG {N : Option Tmp} {f : FuncId} {fn : Func} {xs : Array Operand} {ts : Array TypeId} (hl : ops.toList[i]? = some o) (ha : acts.contains i = true) (hN : o.dst = N) (hg : Region.wanted o (yielded ops a.tmps) = true)
    (hop : o.op = .call { callee := .value (.func f), args := xs, argTypes := ts }) (hf : P.funcs[f]? = some fn) (hname : (fn.name == "runtime.NumGoroutine") = false) (hb : fn.body.isSome = true) (args : List Value) (hargs : xs.toList.map a.eval = args)
    (h : Calls P f args.toArray w fun e w' => ∃ v, e = .returned v ∧ (i ∉ ds → Keep S w w') ∧ wpOrdC S P ops Q R acts reads ds rest (a.put N v) w') : wpOrdC S P ops Q R acts reads ds (i :: rest) a w := by
  refine ord_act hl ha (fun K hK => ?_)
  rw [if_pos hg]
  subst hN
  unfold Oper.wp
  have h1 : fn.name ≠ "runtime.NumGoroutine" := by simpa using hname
  obtain ⟨c, hc⟩ := Option.isSome_iff_exists.1 hb
  have hcall : (callFunc f args.toArray).run P w = .ok (.enter f args.toArray) w := by simp [callFunc, hf, h1, hc]
  have he : (execOp a.eval o).run P w = .ok (.enter f args.toArray) w := by
    unfold execOp
    have hx : xs.map a.eval = args.toArray := by rw [← hargs]; apply Array.ext'; simp
    rw [hop]
    simp [resolve, Deferred.ofValue, invoke, Act.eval, hx, hcall]
  rw [he, Oper.upon_enter]
  refine h.mono fun e w'' hh => ?_
  obtain ⟨v, rfl, h1, h2⟩ := hh
  exact hK _ _ ⟨h1, h2⟩
end
set_option maxRecDepth 100000 in
set_option maxHeartbeats 4000000 in
theorem take_reject {g : Nat} {p : SP} {d : Snd} {Fq G : Nat → Prop} {w : World} (h : SAt g p d Fq G w) (session index of : Int) (sum : Nat) (hs : session ≠ d.session) (A1 A2 : Option Addr) (n1 c1' n2 c2' : Nat) :
    Calls Tryz.prog 29 #[.pointer (some ⟨g, 0, none⟩), .agg #[.int .i64 4, .int .u64 session, .int .i64 index, .int .i64 of, .int .u32 (sum : Nat), .slice A1 n1 c1', .slice A2 n2 c2']] w fun e w' => ∃ b, e = .returned (.slice (some ⟨b, 0, none⟩) 1 1) ∧ OneG w' b 5 session 32 0 sum ∧ Grow w w' ∧ w.heap.size ≤ b := by
  have hd0 := (Keep.refl NoB w).alloc (.cells #[.int .i64 4, .int .u64 session, .int .i64 index, .int .i64 of, .int .u32 (sum : Nat), .slice A1 n1 c1', .slice A2 n2 c2'] 46)
  have HG := Lib.hid hd0
  have HC := Lib.hid (heap_alloc_new w (.cells #[.int .i64 4, .int .u64 session, .int .i64 index, .int .i64 of, .int .u32 (sum : Nat), .slice A1 n1 c1', .slice A2 n2 c2'] 46))
  have H := Lib.hid (h.grow hd0)
  have hsz0 := hd0.size
  have hss : (session == d.session) = false := by simpa using hs
  clear h hd0
  go_enter Tryz.func29, Tryz.ntmps29
  go_wp2
  generalize w.alloc (.cells #[.int .i64 4, .int .u64 session, .int .i64 index, .int .i64 of, .int .u32 (sum : Nat), .slice A1 n1 c1', .slice A2 n2 c2'] 46) = w1 at HG H HC hsz0 ⊢
  obtain ⟨c0, c1, c2, c3, c4, c5, c6, c7, c8, c9, c10, c11, c12, c13, c14, cf⟩ := cells15 H.out.cell
  obtain ⟨z0, z1, z2, z3, z4, z5, z6, zf⟩ := cells7 HC.out
  refine region_ord [0, 1, 2, 3, 4, 5, 6, 7] [7] [1, 5] [] rfl (by kernel_rfl) ?_
  refine ord_pure rfl rfl rfl rfl rfl (fun _ _ _ _ h => h) ?_ ?_ ?_ ?_ ?_
  rotate_left 2
  · intro w'; go_simp; with_reducible rfl
  · simp only [Act.put, pB, pC, pD]; rfl
  refine ord_read rfl rfl rfl rfl rfl (fun _ _ _ _ h => h) ?_ ?_ ?_ ?_ ?_
  rotate_left 2
  · intro w' hg; have q := hg.cell z1 (fun h => h); go_simp; with_reducible rfl
  · simp only [Act.put, pB, pC, pD]; rfl
  iterate 3
    refine ord_pure rfl rfl rfl rfl rfl (fun _ _ _ _ h => h) ?_ ?_ ?_ ?_ ?_
    rotate_left 2
    · intro w'; go_simp; with_reducible rfl
    · simp only [Act.put, pB, pC, pD]; rfl
  refine ord_read rfl rfl rfl rfl rfl (fun _ _ _ _ h => h) ?_ ?_ ?_ ?_ ?_
  rotate_left 2
  · intro w' hg; have q := hg.cell c14 (fun h => h); go_simp; with_reducible rfl
  · simp only [Act.put, pB, pC, pD]; rfl
  refine ord_pure rfl rfl rfl rfl rfl (fun _ _ _ _ h => h) ?_ ?_ ?_ ?_ ?_
  rotate_left 2
  · intro w'; go_simp; with_reducible rfl
  · simp only [Act.put, pB, pC, pD]; rfl
  refine ord_set rfl rfl rfl rfl ?_ ?_ ?_ ?_ ?_
  rotate_left 2
  · go_simp; with_reducible rfl
  · simp only [Act.put, pB, pC, pD]; rfl
  refine ord_nil ?_
  replace HG := Lib.hid HG.out.drew
  replace HC := Lib.hid (show w1.drew.heap[_]? = _ from HC.out)
  replace H := Lib.hid (H.out.grow (Keep.refl NoB w1).drew)
  replace hsz0 : w.heap.size ≤ w1.drew.heap.size := hsz0
  generalize w1.drew = w2 at HG H HC hsz0 ⊢
  clear c0 c1 c2 c3 c4 c5 c6 c7 c8 c9 c10 c11 c12 c13 c14 cf z0 z1 z2 z3 z4 z5 z6 zf
  obtain ⟨c0, c1, c2, c3, c4, c5, c6, c7, c8, c9, c10, c11, c12, c13, c14, cf⟩ := cells15 H.out.cell
  obtain ⟨z0, z1, z2, z3, z4, z5, z6, zf⟩ := cells7 HC.out
  go_wp2
  refine region_ord [0, 1, 2, 3, 4, 5, 6, 7, 8, 9, 10, 11, 12, 13, 14, 15, 16, 17] [17] [1, 8, 13] [] rfl (by kernel_rfl) ?_
  refine ord_pure rfl rfl rfl rfl rfl (fun _ _ _ _ h => h) ?_ ?_ ?_ ?_ ?_
  rotate_left 2
  · intro w'; go_simp; with_reducible rfl
  · simp only [Act.put, pB, pC, pD]; rfl
  refine ord_read rfl rfl rfl rfl rfl (fun _ _ _ _ h => h) ?_ ?_ ?_ ?_ ?_
  rotate_left 2
  · intro w' hg; have q := hg.cell z0 (fun h => h); go_simp; with_reducible rfl
  · simp only [Act.put, pB, pC, pD]; rfl
  iterate 2
    refine ord_pure rfl rfl rfl rfl rfl (fun _ _ _ _ h => h) ?_ ?_ ?_ ?_ ?_
    rotate_left 2
    · intro w'; go_simp; with_reducible rfl
    · simp only [Act.put, pB, pC, pD]; rfl
  iterate 3
    refine ord_pureG rfl rfl rfl rfl rfl (fun _ _ _ _ h => h) ?_ ?_ ?_ ?_ ?_
    rotate_left 2
    · intro w'; go_simp; with_reducible rfl
    · simp only [Act.put, pB, pC, pD]; rfl
  iterate 8
    refine ord_skip rfl rfl rfl rfl (fun _ _ _ _ h => h) ?_ ?_ ?_
    rotate_left 1
    · simp only [Act.put, pB, pC, pD]; rfl
  refine ord_pureG rfl rfl rfl rfl rfl (fun _ _ _ _ h => h) ?_ ?_ ?_ ?_ ?_
  rotate_left 2
  · intro w'; go_simp; with_reducible rfl
  · simp only [Act.put, pB, pC, pD]; rfl
  refine ord_pure rfl rfl rfl rfl rfl (fun _ _ _ _ h => h) ?_ ?_ ?_ ?_ ?_
  rotate_left 2
  · intro w'; go_simp; with_reducible rfl
  · simp only [Act.put, pB, pC, pD]; rfl
  refine ord_set rfl rfl rfl rfl ?_ ?_ ?_ ?_ ?_
  rotate_left 2
  · go_simp; with_reducible rfl
  · simp only [Act.put, pB, pC, pD]; rfl
  refine ord_nil ?_
  replace HG := Lib.hid HG.out.drew
  replace HC := Lib.hid (show w2.drew.heap[_]? = _ from HC.out)
  replace H := Lib.hid (H.out.grow (Keep.refl NoB w2).drew)
  replace hsz0 : w.heap.size ≤ w2.drew.heap.size := hsz0
  generalize w2.drew = w3 at HG H HC hsz0 ⊢
  clear c0 c1 c2 c3 c4 c5 c6 c7 c8 c9 c10 c11 c12 c13 c14 cf z0 z1 z2 z3 z4 z5 z6 zf
  obtain ⟨z0, z1, z2, z3, z4, z5, z6, zf⟩ := cells7 HC.out
  go_wp2
  go_ret
  exact ⟨w3.heap.size, rfl, heap_alloc_new w3 _, HG.out.alloc _, hsz0⟩
end Go.Proofs.YtfkcpaahdlkcdaaGreat
namespace Go.Proofs.YtfkcpaahdlkcdaaGreat
open Go.RowKit
def selB (all bs : List Int) (first : Nat) : Nat → List Int
  | 0 => all
  | k + 1 => if getB bs k = true then setB (selB all bs first k) (first + k) else selB all bs first k
theorem selB_length (all bs : List Int) (first : Nat) : ∀ k, (selB all bs first k).length = all.length
  | 0 => rfl
  | k + 1 => by
    unfold selB
    split
    · rw [setB_length]; exact selB_length all bs first k
    · exact selB_length all bs first k
theorem selB_ok {all : List Int} (h : OkB all) (bs : List Int) (first : Nat) : ∀ k, OkB (selB all bs first k)
  | 0 => h
  | k + 1 => by
    unfold selB
    split
    · exact (selB_ok h bs first k).set _
    · exact selB_ok h bs first k
theorem selB_none (all : List Int) (n first : Nat) : ∀ k, selB all (makeB n) first k = all
  | 0 => rfl
  | k + 1 => by
    unfold selB
    rw [getB_make, if_neg (by simp)]
    exact selB_none all n first k
def sackB (d : Snd) (bs : List Int) : List Int := selB (fullB d.tries.length (pagesN d.sz)) bs (pagesN d.sz) d.ch.length
set_option maxRecDepth 100000 in
set_option maxHeartbeats 8000000 in
theorem keys_sack {g : Nat} {p : SP} {d : Snd} {Fq G : Nat → Prop} {w : World} (h : SAt g p d Fq G w) (session : Int) (A1 A2 : Option Addr) (n1 c1' c2' : Nat) (bs : List Int) (hb : OkB bs) (hbl : bs.length ≤ 100000) (hbs : SliceR 1 (.slice A2 bs.length c2') bs.length (u8s bs) w) (hr : rightBits bs d.ch.length = true) :
    Calls Tryz.prog 217 #[.pointer (some ⟨g, 0, none⟩), .agg #[.int .i64 3, .int .u64 session, .int .i64 1, .int .i64 d.ch.length, .int .u32 (d.sum : Nat), .slice A1 n1 c1', .slice A2 bs.length c2']] w fun e w' => ∃ A c, e = .returned (.tuple #[.slice A (sackB d bs).length c, .bool true]) ∧ Grow w w' ∧ w'.ownsRow w.heap.size 5 1 (.slice A (sackB d bs).length c) (sackB d bs).length (u8s (sackB d bs)) := by
  have hn := h.ok.n
  have hd0 := (Keep.refl NoB w).alloc (.cells #[.int .i64 3, .int .u64 session, .int .i64 1, .int .i64 d.ch.length, .int .u32 (d.sum : Nat), .slice A1 n1 c1', .slice A2 bs.length c2'] 46)
  have HG := Lib.hid hd0
  have HC := Lib.hid (heap_alloc_new w (.cells #[.int .i64 3, .int .u64 session, .int .i64 1, .int .i64 d.ch.length, .int .u32 (d.sum : Nat), .slice A1 n1 c1', .slice A2 bs.length c2'] 46))
  have H := Lib.hid (h.grow hd0)
  have HBS := Lib.hid (hbs.grow hd0)
  have HOB := Lib.hid hb
  have HR := Lib.hid hr
  clear h hd0 hbs hb hr
  obtain ⟨c0, c1, c2, c3, c4, c5, c6, c7, c8, c9, c10, c11, c12, c13, c14, cf⟩ := cells15 H.out.cell
  go_enter Tryz.func217, Tryz.ntmps217
  go_wp2_with fail
  clear c0 c1 c2 c3 c4 c5 c6 c7 c8 c9 c10 c11 c12 c13 c14 cf
  revert HG H HC HBS
  generalize w.alloc (.cells #[.int .i64 3, .int .u64 session, .int .i64 1, .int .i64 d.ch.length, .int .u32 (d.sum : Nat), .slice A1 n1 c1', .slice A2 bs.length c2'] 46) = w1
  intro HG HC H HBS
  refine (bmake_calls d.tries.length (by omega) w1).mono ?_
  rintro e w2 ⟨A3, c3', rfl, hg, hob⟩
  have HO3 : Hid (w2.ownsRow w.heap.size 5 1 (.slice A3 (fullB d.tries.length 0).length c3') (fullB d.tries.length 0).length (u8s (fullB d.tries.length 0))) := Lib.hid (own_le hob HG.out.size)
  replace H := Lib.hid (H.out.grow hg)
  replace HG := Lib.hid (HG.out.grow hg)
  replace HC := Lib.hid (Grow.heap hg HC.out)
  replace HBS := Lib.hid (HBS.out.grow hg)
  clear hg hob
  obtain ⟨c0, c1, c2, c3, c4, c5, c6, c7, c8, c9, c10, c11, c12, c13, c14, cf⟩ := cells15 H.out.cell
  rw [show (makeB d.tries.length).length = (fullB d.tries.length 0).length from rfl]
  go_wp2
  refine region_ord [0, 1, 2, 3, 4, 5] [4, 5] [3] [] rfl (by kernel_rfl) ?_
  iterate 3
    refine ord_pure rfl rfl rfl rfl rfl (fun _ _ _ _ h => h) ?_ ?_ ?_ ?_ ?_
    rotate_left 2
    · intro w'; go_simp; with_reducible rfl
    · simp only [Act.put, pB, pC, pD]; rfl
  refine ord_read rfl rfl rfl rfl rfl (fun _ _ _ _ h => h) ?_ ?_ ?_ ?_ ?_
  rotate_left 2
  · intro w' hg; have q := hg.cell c4 (fun h => h); go_simp; with_reducible rfl
  · simp only [Act.put, pB, pC, pD]; rfl
  iterate 2
    refine ord_set rfl rfl rfl rfl ?_ ?_ ?_ ?_ ?_
    rotate_left 2
    · go_simp; with_reducible rfl
    · simp only [Act.put, pB, pC, pD]; rfl
  refine ord_nil ?_
  clear c0 c1 c2 c3 c4 c5 c6 c7 c8 c9 c10 c11 c12 c13 c14 cf
  replace H := Lib.hid (H.out.grow (Keep.refl NoB w2).drew)
  replace HG := Lib.hid HG.out.drew
  replace HC := Lib.hid (show w2.drew.heap[_]? = _ from HC.out)
  replace HBS := Lib.hid (HBS.out.grow (Keep.refl NoB w2).drew)
  replace HO3 := Lib.hid (own_keep HO3.out (Keep.refl NoB w2).drew (fun _ _ h => h))
  generalize w2.drew = w3 at *
  obtain ⟨c0, c1, c2, c3, c4, c5, c6, c7, c8, c9, c10, c11, c12, c13, c14, cf⟩ := cells15 H.out.cell
  obtain ⟨z0, z1, z2, z3, z4, z5, z6, zf⟩ := cells7 HC.out
  go_wp2
  refine region_ord [0, 1, 2, 3, 4, 5, 6, 7, 8, 9, 10] [9, 10] [3, 7] [] rfl (by kernel_rfl) ?_
  iterate 3
    refine ord_pure rfl rfl rfl rfl rfl (fun _ _ _ _ h => h) ?_ ?_ ?_ ?_ ?_
    rotate_left 2
    · intro w'; go_simp; with_reducible rfl
    · simp only [Act.put, pB, pC, pD]; rfl
  refine ord_read rfl rfl rfl rfl rfl (fun _ _ _ _ h => h) ?_ ?_ ?_ ?_ ?_
  rotate_left 2
  · intro w' hg; have q := hg.cell c4 (fun h => h); go_simp; with_reducible rfl
  · simp only [Act.put, pB, pC, pD]; rfl
  iterate 3
    refine ord_pure rfl rfl rfl rfl rfl (fun _ _ _ _ h => h) ?_ ?_ ?_ ?_ ?_
    rotate_left 2
    · intro w'; go_simp; with_reducible rfl
    · simp only [Act.put, pB, pC, pD]; rfl
  refine ord_read rfl rfl rfl rfl rfl (fun _ _ _ _ h => h) ?_ ?_ ?_ ?_ ?_
  rotate_left 2
  · intro w' hg; have q := hg.cell c5 (fun h => h); go_simp; with_reducible rfl
  · simp only [Act.put, pB, pC, pD]; rfl
  refine ord_pure rfl rfl rfl rfl rfl (fun _ _ _ _ h => h) ?_ ?_ ?_ ?_ ?_
  rotate_left 2
  · intro w'; go_simp; with_reducible rfl
  · simp only [Act.put, pB, pC, pD]; rfl
  iterate 2
    refine ord_set rfl rfl rfl rfl ?_ ?_ ?_ ?_ ?_
    rotate_left 2
    · go_simp; with_reducible rfl
    · simp only [Act.put, pB, pC, pD]; rfl
  refine ord_nil ?_
  clear c0 c1 c2 c3 c4 c5 c6 c7 c8 c9 c10 c11 c12 c13 c14 cf z0 z1 z2 z3 z4 z5 z6 zf
  replace H := Lib.hid (H.out.grow (Keep.refl NoB w3).drew)
  replace HG := Lib.hid HG.out.drew
  replace HC := Lib.hid (show w3.drew.heap[_]? = _ from HC.out)
  replace HBS := Lib.hid (HBS.out.grow (Keep.refl NoB w3).drew)
  replace HO3 := Lib.hid (own_keep HO3.out (Keep.refl NoB w3).drew (fun _ _ h => h))
  generalize w3.drew = w4 at *
  obtain ⟨c0, c1, c2, c3, c4, c5, c6, c7, c8, c9, c10, c11, c12, c13, c14, cf⟩ := cells15 H.out.cell
  obtain ⟨z0, z1, z2, z3, z4, z5, z6, zf⟩ := cells7 HC.out
  go_wp2
  refine region_ord [0, 1, 2, 3, 4, 5, 6, 7, 8, 9, 10, 11, 12, 13, 14, 15, 16, 17, 18, 19, 20] [18] [1, 6, 10, 16] [] rfl (by kernel_rfl) ?_
  refine ord_pure rfl rfl rfl rfl rfl (fun _ _ _ _ h => h) ?_ ?_ ?_ ?_ ?_
  rotate_left 2
  · intro w'; go_simp; with_reducible rfl
  · simp only [Act.put, pB, pC, pD]; rfl
  refine ord_read rfl rfl rfl rfl rfl (fun _ _ _ _ h => h) ?_ ?_ ?_ ?_ ?_
  rotate_left 2
  · intro w' hg; have q := hg.cell z4 (fun h => h); go_simp; with_reducible rfl
  · simp only [Act.put, pB, pC, pD]; rfl
  iterate 4
    refine ord_pure rfl rfl rfl rfl rfl (fun _ _ _ _ h => h) ?_ ?_ ?_ ?_ ?_
    rotate_left 2
    · intro w'; go_simp; with_reducible rfl
    · simp only [Act.put, pB, pC, pD]; rfl
  refine ord_read rfl rfl rfl rfl rfl (fun _ _ _ _ h => h) ?_ ?_ ?_ ?_ ?_
  rotate_left 2
  · intro w' hg; have q := hg.cell c3 (fun h => h); go_simp; with_reducible rfl
  · simp only [Act.put, pB, pC, pD]; rfl
  iterate 2
    refine ord_pure rfl rfl rfl rfl rfl (fun _ _ _ _ h => h) ?_ ?_ ?_ ?_ ?_
    rotate_left 2
    · intro w'; go_simp; with_reducible rfl
    · simp only [Act.put, pB, pC, pD]; rfl
  refine ord_pureG rfl rfl rfl rfl rfl (fun _ _ _ _ h => h) ?_ ?_ ?_ ?_ ?_
  rotate_left 2
  · intro w'; go_simp; with_reducible rfl
  · simp only [Act.put, pB, pC, pD]; rfl
  refine ord_readG rfl rfl rfl rfl rfl (fun _ _ _ _ h => h) ?_ ?_ ?_ ?_ ?_
  rotate_left 2
  · intro w' hg; have q := hg.cell z3 (fun h => h); go_simp; with_reducible rfl
  · simp only [Act.put, pB, pC, pD]; rfl
  iterate 2
    refine ord_pureG rfl rfl rfl rfl rfl (fun _ _ _ _ h => h) ?_ ?_ ?_ ?_ ?_
    rotate_left 2
    · intro w'; go_simp; with_reducible rfl
    · simp only [Act.put, pB, pC, pD]; rfl
  iterate 2
    refine ord_pure rfl rfl rfl rfl rfl (fun _ _ _ _ h => h) ?_ ?_ ?_ ?_ ?_
    rotate_left 2
    · intro w'; go_simp; with_reducible rfl
    · simp only [Act.put, pB, pC, pD]; rfl
  refine ord_pureG rfl rfl rfl rfl rfl (fun _ _ _ _ h => h) ?_ ?_ ?_ ?_ ?_
  rotate_left 2
  · intro w'; go_simp; with_reducible rfl
  · simp only [Act.put, pB, pC, pD]; rfl
  refine ord_readG rfl rfl rfl rfl rfl (fun _ _ _ _ h => h) ?_ ?_ ?_ ?_ ?_
  rotate_left 2
  · intro w' hg; have q := hg.cell z6 (fun h => h); go_simp; with_reducible rfl
  · simp only [Act.put, pB, pC, pD]; rfl
  refine ord_pureG rfl rfl rfl rfl rfl (fun _ _ _ _ h => h) ?_ ?_ ?_ ?_ ?_
  rotate_left 2
  · intro w'; go_simp; with_reducible rfl
  · simp only [Act.put, pB, pC, pD]; rfl
  refine ord_callG rfl rfl rfl rfl rfl Tryz.func253 rfl rfl [.slice A2 bs.length c2', .int .i64 d.ch.length] rfl ?_
  refine (bright_calls A2 c2' bs HOB.out hbl d.ch.length (by omega) _ (HBS.out.grow (Keep.refl NoB w4).drew)).mono ?_
  rintro e w5 ⟨rfl, hg⟩
  refine ⟨_, rfl, fun _ => hg, ?_⟩
  rw [HR.out]
  have hg5 := (Keep.refl NoB w4).drew.grow hg
  clear c0 c1 c2 c3 c4 c5 c6 c7 c8 c9 c10 c11 c12 c13 c14 cf z0 z1 z2 z3 z4 z5 z6 zf
  replace HG := Lib.hid (HG.out.grow hg5)
  replace HC := Lib.hid (Grow.heap hg5 HC.out)
  replace HBS := Lib.hid (HBS.out.grow hg5)
  replace HO3 := Lib.hid (own_keep HO3.out hg5 (fun _ _ h => h))
  clear hg hg5 H
  simp only [Act.put, pB, pC, pD]
  refine ord_pureG rfl rfl rfl rfl rfl (fun _ _ _ _ h => h) ?_ ?_ ?_ ?_ ?_
  rotate_left 2
  · intro w'; go_simp; with_reducible rfl
  · simp only [Act.put, pB, pC, pD]; rfl
  refine ord_pure rfl rfl rfl rfl rfl (fun _ _ _ _ h => h) ?_ ?_ ?_ ?_ ?_
  rotate_left 2
  · intro w'; go_simp; with_reducible rfl
  · simp only [Act.put, pB, pC, pD]; rfl
  refine ord_nil ?_
  go_wp2
  have HS : Hid (sackB d bs = selB (fullB d.tries.length (pagesN d.sz)) bs (pagesN d.sz) d.ch.length) := Lib.hid rfl
  obtain ⟨n, hn9⟩ : ∃ n, d.tries.length = n := ⟨_, rfl⟩
  obtain ⟨P, hP9⟩ : ∃ P, pagesN d.sz = P := ⟨_, rfl⟩
  obtain ⟨q, hq9⟩ : ∃ q, d.ch.length = q := ⟨_, rfl⟩
  rw [hn9, hP9, hq9] at HS
  rw [hn9] at HO3
  rw [hn9, hP9, hq9] at hn
  rw [hn9, hP9, hq9]
  rw [hq9] at HC
  clear hn9 hP9 hq9
  go_loopw [6, 69, 9] (fun s v v9 wr => ∃ k : Nat, k ≤ P ∧ v = .int .i64 k ∧ ∃ A c, s = .slice A (fullB n k).length c ∧ Hid (Grow w5 wr ∧ wr.ownsRow w.heap.size 5 1 (.slice A (fullB n k).length c) (fullB n k).length (u8s (fullB n k)))) (fun s v _ _ => P - (intOf v).toNat)
  case atStart => exact ⟨0, by omega, rfl, A3, c3', rfl, Keep.refl _ _, HO3.out⟩
  case round =>
    obtain ⟨k, hk, rfl, A4, c4', rfl, HH⟩ := hrel
    have hfl := fullB_length n k
    by_cases hlt : k < P
    · have hlt' : (k : Int) < P := by omega
      have hw : IntKind.i64.wrap ((k : Int) + 1) = (k : Int) + 1 := IntWalk.i64_in _ (by omega)
      have hbl2 : (fullB n k).length ≤ 100000 := by omega
      have HB := Lib.hid (fullB_ok n k)
      clear hfl
      go_wp2_with fail
      refine (bset_calls A4 c4' (fullB n k) HB.out hbl2 k (by omega) wr (SliceR.of_own HH.out.2)).mono ?_
      rintro e w6 ⟨A5, c5', rfl, hg, hob⟩
      have HH5 : Hid (Grow w5 w6 ∧ w6.ownsRow w.heap.size 5 1 (.slice A5 (fullB n (k + 1)).length c5') (fullB n (k + 1)).length (u8s (fullB n (k + 1)))) :=
        Lib.hid ⟨HH.out.1.grow hg, own_le hob (Nat.le_trans HG.out.size HH.out.1.size)⟩
      clear hg hob
      go_wp2
      go_roundw
      case rel => exact ⟨k + 1, by omega, by go_num, A5, c5', rfl, HH5⟩
      case measure => simp [intOf]; omega
    · obtain rfl : k = P := by omega
      have hlt' : ¬ ((k : Int) < k) := by omega
      replace HG := Lib.hid (HG.out.grow HH.out.1)
      replace HC := Lib.hid (Grow.heap HH.out.1 HC.out)
      replace HBS := Lib.hid (HBS.out.grow HH.out.1)
      have HO6 := Lib.hid HH.out.2
      clear HH HO3 hfl
      obtain ⟨w6, rfl⟩ : ∃ w6 : World, w6 = wr := ⟨_, rfl⟩
      go_wp2_with fail
      go_loopw [6, 77, 10] (fun s v v9 wr => ∃ i : Nat, i ≤ q ∧ v = .int .i64 i ∧ ∃ A c m, s = .slice A m c ∧ Hid (m = (selB (fullB n k) bs k i).length ∧ Grow w6 wr ∧ wr.ownsRow w.heap.size 5 1 (.slice A m c) m (u8s (selB (fullB n k) bs k i)))) (fun s v _ _ => q - (intOf v).toNat)
      case atStart => exact ⟨0, by omega, rfl, A4, c4', _, rfl, rfl, Keep.refl _ _, HO6.out⟩
      case round =>
        obtain ⟨i, hi, rfl, A6, c6', m6, rfl, HH6⟩ := hrel
        have hC6 := Grow.heap HH6.out.2.1 HC.out
        obtain ⟨z0, z1, z2, z3, z4, z5, z6, zf⟩ := cells7 hC6
        clear hC6
        by_cases hilt : i < q
        · have hilt' : (i : Int) < q := by omega
          have hwi : IntKind.i64.wrap ((i : Int) + 1) = (i : Int) + 1 := IntWalk.i64_in _ (by omega)
          have hwk : IntKind.i64.wrap ((k : Int) + i) = ((k + i : Nat) : Int) := by rw [show ((k + i : Nat) : Int) = (k : Int) + i from by omega]; exact IntWalk.i64_in _ (by omega)
          have E1 : Hid (selB (fullB n k) bs k (i + 1) = if getB bs i = true then setB (selB (fullB n k) bs k i) (k + i) else selB (fullB n k) bs k i) := Lib.hid rfl
          go_wp2_with fail
          refine (bget_calls A2 c2' bs HOB.out i (by omega) wr (HBS.out.grow HH6.out.2.1)).mono ?_
          rintro e w7 ⟨rfl, rfl⟩
          rcases hgb : getB bs i with _ | _
          · rw [hgb, if_neg (by simp)] at E1
            have HR7 : Hid (m6 = (selB (fullB n k) bs k (i + 1)).length ∧ Grow w6 wr ∧ wr.ownsRow w.heap.size 5 1 (.slice A6 m6 c6') m6 (u8s (selB (fullB n k) bs k (i + 1)))) := Lib.hid (by rw [E1.out]; exact HH6.out)
            clear hgb
            go_wp2
            go_roundw
            case rel => exact ⟨i + 1, by omega, by go_num, A6, c6', m6, rfl, HR7⟩
            case measure => simp [intOf]; omega
          · rw [hgb, if_pos rfl] at E1
            have hm6 := HH6.out.1
            have hown := HH6.out.2.2
            have hbl3 : (selB (fullB n k) bs k i).length ≤ 100000 := by rw [selB_length, fullB_length]; omega
            rw [hm6] at hown ⊢
            have HSR := Lib.hid (SliceR.of_own hown)
            clear hgb hown hm6
            go_wp2_with fail
            refine (bset_calls A6 c6' (selB (fullB n k) bs k i) (selB_ok (fullB_ok n k) bs k i) hbl3 (k + i) (by omega) wr HSR.out).mono ?_
            rintro e w8 ⟨A8, c8', rfl, hg, hob⟩
            have HR7 : Hid ((setB (selB (fullB n k) bs k i) (k + i)).length = (selB (fullB n k) bs k (i + 1)).length ∧ Grow w6 w8 ∧ w8.ownsRow w.heap.size 5 1 (.slice A8 (setB (selB (fullB n k) bs k i) (k + i)).length c8') (setB (selB (fullB n k) bs k i) (k + i)).length (u8s (selB (fullB n k) bs k (i + 1)))) :=
              Lib.hid (by rw [E1.out]; exact ⟨rfl, HH6.out.2.1.grow hg, own_le hob (Nat.le_trans HG.out.size HH6.out.2.1.size)⟩)
            clear hg hob
            go_wp2
            go_roundw
            case rel => exact ⟨i + 1, by omega, by go_num, A8, c8', _, rfl, HR7⟩
            case measure => simp [intOf]; omega
        · obtain rfl : i = q := by omega
          have hilt' : ¬ ((i : Int) < i) := by omega
          have HFIN : Hid (m6 = (sackB d bs).length ∧ Grow w wr ∧ wr.ownsRow w.heap.size 5 1 (.slice A6 m6 c6') m6 (u8s (sackB d bs))) := Lib.hid (by rw [HS.out]; exact ⟨HH6.out.1, HG.out.grow HH6.out.2.1, HH6.out.2.2⟩)
          clear z0 z1 z2 z3 z4 z5 z6 zf
          go_wp2
          go_ret2
          have ho := HFIN.out.2.2
          rw [HFIN.out.1] at ho ⊢
          exact ⟨A6, c6', rfl, HFIN.out.2.1, ho⟩
end Go.Proofs.YtfkcpaahdlkcdaaGreat
namespace Go.Proofs.YtfkcpaahdlkcdaaGreat
open Go.RowKit
def sackD (d : Snd) (bs : List Int) : Snd := knD (sackB d bs) d.acked d.tries.length (ackD { d with phase := 1 } (sackB d bs))
def SackPost (g : Nat) (p : SP) (d : Snd) (bs : List Int) (Fq G : Nat → Prop) (w : World) (e : Ending) (w' : World) : Prop :=
  e = .returned (.slice none 0 0) ∧ ∃ p' G', SAt g p' (sackD d bs) Fq G' w' ∧ Keep (SF g p.rt Fq) w w' ∧ p'.rt = p.rt ∧ ∀ k, G' k → G k ∨ w.heap.size ≤ k
theorem sackB_ok (d : Snd) (bs : List Int) : OkB (sackB d bs) := selB_ok (fullB_ok _ _) _ _ _
theorem sackB_length (d : Snd) (bs : List Int) : (sackB d bs).length = (d.tries.length + 7) / 8 := by unfold sackB; rw [selB_length, fullB_length]
theorem SAt.phase1 {g : Nat} {p : SP} {d : Snd} {Fq G : Nat → Prop} {w : World} (h : SAt g p d Fq G w) : SAt g p { d with phase := 1 } Fq G (w.setCell ⟨g, 10, none⟩ (.int .i64 1)) ∧ Keep (fun k => k = g) w (w.setCell ⟨g, 10, none⟩ (.int .i64 1)) := by
  obtain ⟨d1, d2, d3, d4, d5, d6⟩ := h.dis
  have hK : Keep (fun k => k = g) w (w.setCell ⟨g, 10, none⟩ (.int .i64 1)) := (Keep.refl (fun k => k = g) w).setCell (p := ⟨g, 10, none⟩) (.inl rfl) _
  have ok := h.ok
  exact ⟨⟨stored15_10 _ h.cell, h.que.keep hK (fun k hk e => d2 (e ▸ hk)), own_keep h.tri hK (fun k hk e => by cases hk; exact d1 e.symm), h.ro.keep hK (fun k hk e => d4 (e ▸ hk)), ⟨d1, d2, d3, d4, d5, d6⟩, fun k hk => by simpa using h.lt k hk,
    ⟨ok.s0, ok.s1, ok.sum, ok.fit, ok.ch, ok.chl, ok.conf, .inl rfl, ok.err, ok.acked, ok.alen, ok.tlen, ok.tr, ok.tm⟩⟩, hK⟩
set_option maxRecDepth 100000 in
set_option maxHeartbeats 4000000 in
theorem sack_calls {g : Nat} {p : SP} {d : Snd} {Fq G : Nat → Prop} {w : World} (h : SAt g p d Fq G w) (hgl : ∀ k, SF g p.rt Fq k → k < w.heap.size) (session : Int) (A1 A2 : Option Addr) (n1 c1' c2' : Nat) (bs : List Int) (hb : OkB bs) (hbl : bs.length ≤ 100000) (hbs : SliceR 1 (.slice A2 bs.length c2') bs.length (u8s bs) w) (hr : rightBits bs d.ch.length = true) :
    Calls Tryz.prog 161 #[.pointer (some ⟨g, 0, none⟩), .agg #[.int .i64 3, .int .u64 session, .int .i64 1, .int .i64 d.ch.length, .int .u32 (d.sum : Nat), .slice A1 n1 c1', .slice A2 bs.length c2']] w fun e w' => SackPost g p d bs Fq G w e w' := by
  have hd0 := (Keep.refl NoB w).alloc (.cells #[.int .i64 3, .int .u64 session, .int .i64 1, .int .i64 d.ch.length, .int .u32 (d.sum : Nat), .slice A1 n1 c1', .slice A2 bs.length c2'] 46)
  have HG := Lib.hid hd0
  have HC := Lib.hid (heap_alloc_new w (.cells #[.int .i64 3, .int .u64 session, .int .i64 1, .int .i64 d.ch.length, .int .u32 (d.sum : Nat), .slice A1 n1 c1', .slice A2 bs.length c2'] 46))
  have H := Lib.hid (h.grow hd0)
  have HKY := Lib.hid (keys_sack H.out session A1 A2 n1 c1' c2' bs hb hbl (hbs.grow hd0) hr)
  have HGL := Lib.hid hgl
  obtain ⟨z0, z1, z2, z3, z4, z5, z6, zf⟩ := cells7 HC.out
  clear h hd0 hbs hb hr hgl
  go_enter Tryz.func161, Tryz.ntmps161
  go_wp2_with fail
  refine HKY.out.mono ?_
  rintro e w2 ⟨A3, c3, rfl, hg, hob⟩
  replace H := Lib.hid (H.out.grow hg)
  have hsz := HG.out.size
  have HGA : Hid (∀ k, (Value.slice A3 (sackB d bs).length c3).ownBlock = some k → w.heap.size ≤ k) := Lib.hid (fun k hk => Nat.le_trans hsz (hob.lt k hk).1)
  replace HG := Lib.hid (HG.out.grow hg)
  have HOB := Lib.hid hob
  clear hg hob HC HKY z0 z1 z2 z3 z4 z5 z6 zf hsz
  obtain ⟨c0, c1, c2, c3', c4, c5, c6, c7, c8, c9, c10, c11, c12, c13, c14, cf⟩ := cells15 H.out.cell
  have hph := H.out.phase1
  have HS := Lib.hid hph.1
  have HK := Lib.hid ((HG.out.mono (T := SF g p.rt Fq) (fun _ h => h.elim)).trans hph.2 (fun i hi => .inl (.inl hi)))
  have hro := (Foot.of_own HOB.out).keep hph.2 (fun k hk e => by have h1 := HGA.out k hk; have h2 := HGL.out g (.inl rfl); omega)
  have HKN := Lib.hid (known_calls hph.1 (sackB d bs) (sackB_ok d bs) (sackB_length d bs) A3 c3 hro (fun k hk e => by have h1 := HGA.out k hk; have h2 := HGL.out k e; omega))
  clear hph hro
  go_wp2_with fail
  refine HKN.out.mono ?_
  rintro e w4 ⟨⟨v4, rfl⟩, hS, hK⟩
  have HFIN : Hid (SackPost g p d bs Fq G w (.returned (.slice none 0 0)) w4) := Lib.hid ⟨rfl, _, _, hS, HK.out.trans hK (fun _ h => .inl h), rfl, fun k hk => hk.imp id (fun h => HGA.out k h)⟩
  clear hS hK c0 c1 c2 c3' c4 c5 c6 c7 c8 c9 c10 c11 c12 c13 c14 cf
  go_wp2
  go_ret
  exact HFIN.out
set_option maxRecDepth 100000 in
set_option maxHeartbeats 4000000 in
theorem take_sack {g : Nat} {p : SP} {d : Snd} {Fq G : Nat → Prop} {w : World} (h : SAt g p d Fq G w) (hp : d.phase = 1) (A1 A2 : Option Addr) (n1 c1' c2' : Nat) (bs : List Int) (hb : OkB bs) (hbl : bs.length ≤ 100000) (hbs : SliceR 1 (.slice A2 bs.length c2') bs.length (u8s bs) w) (hr : rightBits bs d.ch.length = true) :
    Calls Tryz.prog 29 #[.pointer (some ⟨g, 0, none⟩), .agg #[.int .i64 3, .int .u64 d.session, .int .i64 1, .int .i64 d.ch.length, .int .u32 (d.sum : Nat), .slice A1 n1 c1', .slice A2 bs.length c2']] w fun e w' => SackPost g p d bs Fq G w e w' := by
  have hd0 := (Keep.refl NoB w).alloc (.cells #[.int .i64 3, .int .u64 d.session, .int .i64 1, .int .i64 d.ch.length, .int .u32 (d.sum : Nat), .slice A1 n1 c1', .slice A2 bs.length c2'] 46)
  have HG := Lib.hid hd0
  have HC := Lib.hid (heap_alloc_new w (.cells #[.int .i64 3, .int .u64 d.session, .int .i64 1, .int .i64 d.ch.length, .int .u32 (d.sum : Nat), .slice A1 n1 c1', .slice A2 bs.length c2'] 46))
  have HSM := Lib.hid h.small
  have H := Lib.hid (h.grow hd0)
  have HBS := Lib.hid hbs
  have HOB := Lib.hid hb
  have HRB := Lib.hid hr
  have HPH := Lib.hid h.ok.phase
  have hsz0 := hd0.size
  have hkk : ((3 : Int) == 4) = false := rfl
  clear h hd0 hbs hb hr
  go_enter Tryz.func29, Tryz.ntmps29
  go_wp2
  generalize w.alloc (.cells #[.int .i64 3, .int .u64 d.session, .int .i64 1, .int .i64 d.ch.length, .int .u32 (d.sum : Nat), .slice A1 n1 c1', .slice A2 bs.length c2'] 46) = w1 at HG H HC hsz0 ⊢
  obtain ⟨c0, c1, c2, c3, c4, c5, c6, c7, c8, c9, c10, c11, c12, c13, c14, cf⟩ := cells15 H.out.cell
  obtain ⟨z0, z1, z2, z3, z4, z5, z6, zf⟩ := cells7 HC.out
  refine region_ord [0, 1, 2, 3, 4, 5, 6, 7] [7] [1, 5] [] rfl (by kernel_rfl) ?_
  refine ord_pure rfl rfl rfl rfl rfl (fun _ _ _ _ h => h) ?_ ?_ ?_ ?_ ?_
  rotate_left 2
  · intro w'; go_simp; with_reducible rfl
  · simp only [Act.put, pB, pC, pD]; rfl
  refine ord_read rfl rfl rfl rfl rfl (fun _ _ _ _ h => h) ?_ ?_ ?_ ?_ ?_
  rotate_left 2
  · intro w' hg; have q := hg.cell z1 (fun h => h); go_simp; with_reducible rfl
  · simp only [Act.put, pB, pC, pD]; rfl
  iterate 3
    refine ord_pure rfl rfl rfl rfl rfl (fun _ _ _ _ h => h) ?_ ?_ ?_ ?_ ?_
    rotate_left 2
    · intro w'; go_simp; with_reducible rfl
    · simp only [Act.put, pB, pC, pD]; rfl
  refine ord_read rfl rfl rfl rfl rfl (fun _ _ _ _ h => h) ?_ ?_ ?_ ?_ ?_
  rotate_left 2
  · intro w' hg; have q := hg.cell c14 (fun h => h); go_simp; with_reducible rfl
  · simp only [Act.put, pB, pC, pD]; rfl
  refine ord_pure rfl rfl rfl rfl rfl (fun _ _ _ _ h => h) ?_ ?_ ?_ ?_ ?_
  rotate_left 2
  · intro w'; go_simp; with_reducible rfl
  · simp only [Act.put, pB, pC, pD]; rfl
  refine ord_set rfl rfl rfl rfl ?_ ?_ ?_ ?_ ?_
  rotate_left 2
  · go_simp; with_reducible rfl
  · simp only [Act.put, pB, pC, pD]; rfl
  refine ord_nil ?_
  replace HG := Lib.hid HG.out.drew
  replace HC := Lib.hid (show w1.drew.heap[_]? = _ from HC.out)
  replace H := Lib.hid (H.out.grow (Keep.refl NoB w1).drew)
  replace hsz0 : w.heap.size ≤ w1.drew.heap.size := hsz0
  generalize w1.drew = w2 at HG H HC hsz0 ⊢
  clear c0 c1 c2 c3 c4 c5 c6 c7 c8 c9 c10 c11 c12 c13 c14 cf z0 z1 z2 z3 z4 z5 z6 zf
  obtain ⟨c0, c1, c2, c3, c4, c5, c6, c7, c8, c9, c10, c11, c12, c13, c14, cf⟩ := cells15 H.out.cell
  obtain ⟨z0, z1, z2, z3, z4, z5, z6, zf⟩ := cells7 HC.out
  go_wp2
  refine region_ord [0, 1, 2, 3, 4, 5, 6, 7, 8, 9, 10, 11, 12, 13, 14, 15, 16, 17] [17] [1, 8, 13] [] rfl (by kernel_rfl) ?_
  refine ord_pure rfl rfl rfl rfl rfl (fun _ _ _ _ h => h) ?_ ?_ ?_ ?_ ?_
  rotate_left 2
  · intro w'; go_simp; with_reducible rfl
  · simp only [Act.put, pB, pC, pD]; rfl
  refine ord_read rfl rfl rfl rfl rfl (fun _ _ _ _ h => h) ?_ ?_ ?_ ?_ ?_
  rotate_left 2
  · intro w' hg; have q := hg.cell z0 (fun h => h); go_simp; with_reducible rfl
  · simp only [Act.put, pB, pC, pD]; rfl
  iterate 2
    refine ord_pure rfl rfl rfl rfl rfl (fun _ _ _ _ h => h) ?_ ?_ ?_ ?_ ?_
    rotate_left 2
    · intro w'; go_simp; with_reducible rfl
    · simp only [Act.put, pB, pC, pD]; rfl
  iterate 12
    refine ord_skip rfl rfl rfl rfl (fun _ _ _ _ h => h) ?_ ?_ ?_
    rotate_left 1
    · simp only [Act.put, pB, pC, pD]; rfl
  refine ord_pure rfl rfl rfl rfl rfl (fun _ _ _ _ h => h) ?_ ?_ ?_ ?_ ?_
  rotate_left 2
  · intro w'; go_simp; with_reducible rfl
  · simp only [Act.put, pB, pC, pD]; rfl
  refine ord_set rfl rfl rfl rfl ?_ ?_ ?_ ?_ ?_
  rotate_left 2
  · go_simp; with_reducible rfl
  · simp only [Act.put, pB, pC, pD]; rfl
  refine ord_nil ?_
  replace HG := Lib.hid HG.out.drew
  replace HC := Lib.hid (show w2.drew.heap[_]? = _ from HC.out)
  replace H := Lib.hid (H.out.grow (Keep.refl NoB w2).drew)
  replace hsz0 : w.heap.size ≤ w2.drew.heap.size := hsz0
  generalize w2.drew = w3 at HG H HC hsz0 ⊢
  clear c0 c1 c2 c3 c4 c5 c6 c7 c8 c9 c10 c11 c12 c13 c14 cf z0 z1 z2 z3 z4 z5 z6 zf
  obtain ⟨c0, c1, c2, c3, c4, c5, c6, c7, c8, c9, c10, c11, c12, c13, c14, cf⟩ := cells15 H.out.cell
  obtain ⟨z0, z1, z2, z3, z4, z5, z6, zf⟩ := cells7 HC.out
  rw [hp] at c10
  have hnq := neq_nilF
  go_wp2
  refine region_ord [1, 2, 0, 3, 4] [0, 4] [2, 3] [] rfl (by kernel_rfl) ?_
  refine ord_pure rfl rfl rfl rfl rfl (fun _ _ _ _ h => h) ?_ ?_ ?_ ?_ ?_
  rotate_left 2
  · intro w'; go_simp; with_reducible rfl
  · simp only [Act.put, pB, pC, pD]; rfl
  refine ord_read rfl rfl rfl rfl rfl (fun _ _ _ _ h => h) ?_ ?_ ?_ ?_ ?_
  rotate_left 2
  · intro w' hg; have q := hg.cell z0 (fun h => h); go_simp; with_reducible rfl
  · simp only [Act.put, pB, pC, pD]; rfl
  refine ord_call rfl rfl rfl rfl rfl Tryz.func101 rfl rfl [] rfl ?_
  refine (takes_calls _).mono ?_
  rintro e w4 ⟨b4, rfl, hb4, hg4⟩
  refine ⟨_, rfl, fun _ => hg4, ?_⟩
  simp only [Act.put, pB, pC, pD]
  replace HG := Lib.hid (HG.out.grow ((Keep.refl NoB w3).drew.grow hg4))
  replace HC := Lib.hid (Grow.heap ((Keep.refl NoB w3).drew.grow hg4) HC.out)
  replace H := Lib.hid (H.out.grow ((Keep.refl NoB w3).drew.grow hg4))
  replace hsz0 : w.heap.size ≤ w4.heap.size := HG.out.size
  clear c0 c1 c2 c3 c4 c5 c6 c7 c8 c9 c10 c11 c12 c13 c14 cf z0 z1 z2 z3 z4 z5 z6 zf
  obtain ⟨z0, z1, z2, z3, z4, z5, z6, zf⟩ := cells7 HC.out
  have hF : takesF 3 = .func (.func 161) #[] #[] := rfl
  refine ord_read rfl rfl rfl rfl rfl (fun _ _ _ _ h => h) ?_ ?_ ?_ ?_ ?_
  rotate_left 2
  · intro w' hg; have q := look_takes (Grow.heap hg hb4) 3; rw [hF] at q; go_simp; with_reducible rfl
  · simp only [Act.put, pB, pC, pD]; rfl
  refine ord_set rfl rfl rfl rfl ?_ ?_ ?_ ?_ ?_
  rotate_left 2
  · go_simp; with_reducible rfl
  · simp only [Act.put, pB, pC, pD]; rfl
  refine ord_nil ?_
  clear hF hb4 hg4
  go_wp2_with fail
  refine (sack_calls H.out H.out.small d.session A1 A2 n1 c1' c2' bs HOB.out hbl (HBS.out.grow HG.out) HRB.out).mono ?_
  rintro e w5 ⟨rfl, p5, G5, hS, hK, hrt, hg5⟩
  have HS := Lib.hid hS
  have HK := Lib.hid ((HG.out.mono (fun _ h => h.elim)).trans hK (fun _ h => .inl h))
  have HG5 : Hid (∀ k, G5 k → G k ∨ w.heap.size ≤ k) := Lib.hid (fun k hk => (hg5 k hk).imp id (fun h => Nat.le_trans hsz0 h))
  clear hS hK hg5
  go_wp2
  go_ret
  exact ⟨rfl, p5, G5, HS.out, HK.out, hrt, HG5.out⟩
end Go.Proofs.YtfkcpaahdlkcdaaGreat
namespace Go.Proofs.YtfkcpaahdlkcdaaGreat
open Go.RowKit
theorem fullB_small (n P : Nat) (hn : 1 ≤ n) (hP : P ≤ 4) : fullB n P = ((2 ^ P - 1 : Nat) : Int) :: List.replicate ((n + 7) / 8 - 1) 0 := by
  have e : makeB n = (0 : Int) :: List.replicate ((n + 7) / 8 - 1) 0 := by
    unfold makeB
    rw [show (n + 7) / 8 = ((n + 7) / 8 - 1) + 1 from by omega, List.replicate_succ]
    simp
  have h : P = 0 ∨ P = 1 ∨ P = 2 ∨ P = 3 ∨ P = 4 := by omega
  rcases h with rfl | rfl | rfl | rfl | rfl <;> simp [fullB, e, setB]
theorem eachL_one (c m : Nat) : eachL (((c : Nat) : Int) :: List.replicate m 0) = bitL c := by
  unfold eachL
  rw [List.length_cons, List.length_replicate, List.range_succ_eq_map, List.flatMap_cons, List.flatMap_map]
  have h : (List.range m).flatMap (fun k => (bitL ((((c : Nat) : Int) :: List.replicate m 0).getD (k + 1) 0).toNat).map (fun j => (k + 1) * 8 + j)) = [] := by
    rw [List.flatMap_eq_nil_iff]
    intro k hk
    have e : ((((c : Nat) : Int) :: List.replicate m 0).getD (k + 1) 0).toNat = 0 := by
      simp only [List.getD_eq_getElem?_getD, List.getElem?_cons_succ, List.getElem?_replicate]
      split <;> rfl
    rw [e, bitL_zero]
    rfl
  have h0 : (bitL ((((c : Nat) : Int) :: List.replicate m 0).getD 0 0).toNat).map (fun j => 0 * 8 + j) = bitL c := by simp
  rw [h0]
  have h2 := h
  simp only [Nat.succ_eq_add_one] at *
  rw [h2, List.append_nil]
theorem firstN_full (n P : Nat) (hP : P ≤ 4) (hn : P ≤ n) (h1 : 1 ≤ n) : firstN (fullB n P) n = P := by
  unfold firstN
  rw [fullB_small n P h1 hP, eachL_one]
  have h : P = 0 ∨ P = 1 ∨ P = 2 ∨ P = 3 ∨ P = 4 := by omega
  have hg : goN 0 (bitL (2 ^ P - 1)) = P := by rcases h with rfl | rfl | rfl | rfl | rfl <;> decide
  rw [hg]
  omega
theorem knD_id {d : Snd} {m : Nat} (h1 : d.tm = []) (h2 : d.tries = List.replicate m 0) (all was : List Int) : ∀ k, knD all was k d = d
  | 0 => rfl
  | k + 1 => by
    have hf : ∀ key, freshD d key = d := fun key => by
      unfold freshD
      have e1 : delL d.tm key = d.tm := by rw [h1]; rfl
      have e2 : d.tries.set key 0 = d.tries := by
        rw [h2]
        apply List.ext_getElem?
        intro i
        rw [List.getElem?_set]
        split
        · rename_i h
          subst h
          simp [List.getElem?_replicate]
        · rfl
      rw [e1, e2]
    unfold knD
    rw [knD_id h1 h2 all was k]
    split
    · exact hf k
    · rfl
def winD (d : Snd) : Snd := { d with acked := fullB d.tries.length (pagesN d.sz) }
theorem sackD_new (session : Int) (a : List (List Int)) (win back retry quota : Int) (q : Nat) : sackD (newD session a win back retry quota) (makeB q) = winD (newD session a win back retry quota) := by
  unfold sackD sackB
  rw [selB_none]
  have := knD_id (d := ackD { newD session a win back retry quota with phase := 1 } (fullB (newD session a win back retry quota).tries.length (pagesN (newD session a win back retry quota).sz))) (m := pagesN (szs a) + chunksN (szs a)) rfl rfl (fullB (newD session a win back retry quota).tries.length (pagesN (newD session a win back retry quota).sz)) (newD session a win back retry quota).acked (newD session a win back retry quota).tries.length
  rw [this]
  rfl
def rowT (p : Nat) (now : Int) (m : Nat) : List KT := (List.range m).map (fun (i : Nat) => (((p + i : Nat) : Int), now))
theorem rowT_succ (p : Nat) (now : Int) (m : Nat) : rowT p now (m + 1) = rowT p now m ++ [(((p + m : Nat) : Int), now)] := by simp [rowT, List.range_succ]
theorem rowT_length (p : Nat) (now : Int) (m : Nat) : (rowT p now m).length = m := by simp [rowT]
theorem mem_rowT {p : Nat} {now : Int} {m : Nat} {x : KT} (h : x ∈ rowT p now m) : ∃ i, i < m ∧ x = (((p + i : Nat) : Int), now) := by
  obtain ⟨i, hi, rfl⟩ := List.mem_map.1 h
  exact ⟨i, List.mem_range.1 hi, rfl⟩
theorem rowT_has (p : Nat) (now : Int) (m k : Nat) (hk : m ≤ k) : hasL (rowT p now m) ((p + k : Nat) : Int) = false := by
  unfold hasL
  rw [List.any_eq_false]
  intro x hx
  obtain ⟨i, hi, rfl⟩ := mem_rowT hx
  simp; omega
theorem delL_none {l : List KT} {key : Int} (h : hasL l key = false) : delL l key = l := by
  unfold delL
  rw [List.filter_eq_self]
  intro x hx
  unfold hasL at h
  rw [List.any_eq_false] at h
  have := h x hx
  simpa using this
theorem rSet_new {l : List KT} {key at_ : Int} (h : hasL l key = false) (hl : l.length < 1000) : rSet l key at_ = l ++ [(key, at_)] := by
  unfold rSet okSet setL
  rw [delL_none h, if_pos (by simp [hl])]
theorem askD_skip (now : Int) (frm : Nat) (d : Snd) : ∀ k, (∀ i, i < k → getB d.acked (frm + i) = true) → askD now frm k d = d
  | 0, _ => rfl
  | k + 1, h => by
    unfold askD
    rw [askD_skip now frm d k (fun i hi => h i (by omega)), if_neg (by rw [h k (by omega)]; simp)]
theorem askD_row (now : Int) (p : Nat) (d : Snd) (ht : d.tm = []) : ∀ k, k ≤ 900 → (∀ i, i < k → getB d.acked (p + i) = false) → askD now p k d = { d with tm := rowT p now k }
  | 0, _, _ => by unfold askD; rw [show rowT p now 0 = d.tm from by rw [ht]; rfl]
  | k + 1, hk, h => by
    unfold askD
    rw [askD_row now p d ht k (by omega) (fun i hi => h i (by omega))]
    rw [if_pos ⟨rowT_has p now k k (Nat.le_refl _), h k (by omega)⟩]
    unfold setD
    rw [rSet_new (rowT_has p now k k (Nat.le_refl _)) (by rw [rowT_length]; omega), rowT_succ]
theorem rowT_rest (p : Nat) (now : Int) (m : Nat) : restL (rowT p now m) now = [] := by
  unfold restL
  rw [List.filter_eq_nil_iff]
  intro x hx
  obtain ⟨i, hi, rfl⟩ := mem_rowT hx
  simp
theorem rowT_nd (p : Nat) (now : Int) : ∀ m, ND (rowT p now m)
  | 0 => List.Pairwise.nil
  | m + 1 => by
    rw [rowT_succ]
    unfold ND
    rw [List.pairwise_append]
    refine ⟨rowT_nd p now m, List.pairwise_singleton _ _, fun x hx y hy => ?_⟩
    obtain ⟨i, hi, rfl⟩ := mem_rowT hx
    rw [List.mem_singleton.1 hy]
    show ((p + i : Nat) : Int) ≠ ((p + m : Nat) : Int)
    omega
theorem rowT_sorted (p : Nat) (now : Int) : ∀ m, (rowT p now m).Pairwise lekt
  | 0 => List.Pairwise.nil
  | m + 1 => by
    rw [rowT_succ, List.pairwise_append]
    refine ⟨rowT_sorted p now m, List.pairwise_singleton _ _, fun x hx y hy => ?_⟩
    obtain ⟨i, hi, rfl⟩ := mem_rowT hx
    rw [List.mem_singleton.1 hy]
    exact .inr ⟨rfl, by show ((p + i : Nat) : Int) ≤ ((p + m : Nat) : Int); omega⟩
theorem rowT_due (p : Nat) (now : Int) (m : Nat) : DueOf (rowT p now m) now (rowT p now m) :=
  ⟨rowT_sorted p now m, rowT_nd p now m, fun x => ⟨fun h => ⟨h, by obtain ⟨i, hi, rfl⟩ := mem_rowT h; exact Int.le_refl _⟩, fun h => h.1⟩, by rw [rowT_rest]; rfl⟩
theorem hasL_app {l : List KT} {x : KT} {key : Int} (h : hasL l key = false) (hx : x.1 ≠ key) : hasL (l ++ [x]) key = false := by
  unfold hasL at *
  simp [h, hx]
theorem tickL_row (now : Int) (p : Nat) : ∀ (m s : Nat) (d : Snd) (out : List Gm), 1 ≤ d.retry → d.tm.length + m < 1000 → (∀ i, i < m → d.tries.getD (p + (s + i)) 0 = 0) → (∀ i, i < m → hasL d.tm ((p + (s + i) : Nat) : Int) = false) →
    (tickL now ((List.range m).map (fun (i : Nat) => (((p + (s + i) : Nat) : Int), now))) d out).2 = out ++ (List.range m).map (fun i => ofG d (p + (s + i))) ∧
    (tickL now ((List.range m).map (fun (i : Nat) => (((p + (s + i) : Nat) : Int), now))) d out).1.tm.length = d.tm.length + m
  | 0, s, d, out, _, _, _, _ => by simp [tickL]
  | m + 1, s, d, out, hr, hl, ht, hh => by
    have e : ∀ {α : Type} (f : Nat → α), (List.range (m + 1)).map f = f 0 :: (List.range m).map (fun i => f (i + 1)) := fun f => by
      rw [List.range_succ_eq_map, List.map_cons, List.map_map]; rfl
    rw [e, e]
    have h0 := ht 0 (by omega)
    have hh0 := hh 0 (by omega)
    unfold tickL
    simp only [Int.toNat_natCast]
    rw [if_neg (by rw [h0]; omega)]
    have hs : ∀ i, p + (s + (i + 1)) = p + ((s + 1) + i) := fun i => by omega
    have hstep : (stepD now (p + (s + 0)) d).tm = d.tm ++ [(((p + (s + 0) : Nat) : Int), now + pauseN d.back (d.tries.getD (p + (s + 0)) 0))] := by
      show rSet d.tm _ _ = _
      exact rSet_new hh0 (by omega)
    have ih := tickL_row now p m (s + 1) (stepD now (p + (s + 0)) d) (out ++ [ofG d (p + (s + 0))]) hr (by rw [hstep]; simp; omega)
      (fun i hi => by
        show (d.tries.set (p + (s + 0)) _).getD (p + (s + 1 + i)) 0 = 0
        rw [List.getD_eq_getElem?_getD, List.getElem?_set_ne (by omega), ← List.getD_eq_getElem?_getD, ← hs i]
        exact ht (i + 1) (by omega))
      (fun i hi => by
        rw [hstep]
        refine hasL_app ?_ (by show ((p + (s + 0) : Nat) : Int) ≠ ((p + (s + 1 + i) : Nat) : Int); omega)
        rw [← hs i]
        exact hh (i + 1) (by omega))
    simp only [hs]
    refine ⟨ih.1.trans ?_, ih.2.trans ?_⟩
    · rw [List.append_assoc]
      rfl
    · rw [hstep]; simp; omega
theorem winD_tick (session : Int) (a : List (List Int)) (win back retry quota now : Int) (hfit : fitsB (szs a) = true) (hw0 : 1 ≤ win) (hw1 : win ≤ 64) (hr : 1 ≤ retry) (d : Snd) (hd : d = winD (newD session a win back retry quota)) (ds : List KT) (hdue : DueOf (openD now d).tm now ds) (m : Nat) (hm : m = min win.toNat (chunksN (szs a))) :
    (tickL now ds { openD now d with tm := restL (openD now d).tm now } []).2 = (List.range m).map (fun i => (⟨2, session, (i : Nat), chunksN (szs a), sumP session a, [], chunkP a i⟩ : Gm)) ∧
    (tickL now ds { openD now d with tm := restL (openD now d).tm now } []).1.tm.length = m := by
  obtain ⟨hl1, hl2, hnn, hsum⟩ := fits_parts hfit
  have hP1 : 1 ≤ pagesN (szs a) := by unfold pagesN; omega
  have hP4 : pagesN (szs a) ≤ 4 := by unfold pagesN; omega
  have hq : chunksN (szs a) ≤ 512 := by unfold chunksN; omega
  have hq1 : 1 ≤ chunksN (szs a) := by
    have h5 : 1 ≤ (szs a).sum := by
      unfold fitsB at hfit
      simp only [decide_eq_true_eq] at hfit
      have hh := hfit.2.2.1
      have h6 := sum_take_le hnn 1
      cases hsz : szs a with
      | nil => rw [hsz] at hl1; simp at hl1
      | cons x r => rw [hsz] at hh h6; simp at hh h6 ⊢; omega
    unfold chunksN; omega
  generalize hPP : pagesN (szs a) = P at hP1 hP4
  generalize hQQ : chunksN (szs a) = q at hm hq hq1
  have htr : d.tries.length = P + q := by rw [hd]; show (List.replicate (pagesN (szs a) + chunksN (szs a)) (0 : Int)).length = _; rw [List.length_replicate, hPP, hQQ]
  have hac : d.acked = fullB (P + q) P := by
    rw [← htr, hd]
    show fullB (newD session a win back retry quota).tries.length (pagesN (szs a)) = _
    rw [hPP]; rfl
  have hsz : d.sz = szs a := by rw [hd]; rfl
  have htm : d.tm = [] := by rw [hd]; rfl
  have htri : d.tries = List.replicate (P + q) 0 := by rw [hd]; show List.replicate (pagesN (szs a) + chunksN (szs a)) (0 : Int) = _; rw [hPP, hQQ]
  have hwin : d.win = win := by rw [hd]; rfl
  have hret : d.retry = retry := by rw [hd]; rfl
  have hses : d.session = session := by rw [hd]; rfl
  have hsm : d.sum = sumP session a := by rw [hd]; rfl
  have hch : d.ch = chsP a := by rw [hd]; rfl
  have ho : openD now d = { d with tm := rowT P now m } := by
    refine Eq.trans ?_ (askD_row now P d htm m (by omega) (fun i hi => by rw [hac, fullB_get _ _ (by omega)]; simp))
    unfold openD
    rw [hac, htr, hsz, hPP, firstN_full (P + q) P hP4 (by omega) (by omega), if_neg (by omega), if_pos (by omega), hwin]
    rw [askD_skip now 0 d P (fun i hi => by rw [hac, fullB_get _ _ (by omega)]; simp; omega)]
    rw [show min (P + win.toNat) (P + q) - P = m from by omega]
  rw [ho] at hdue ⊢
  have hds : ds = rowT P now m := hdue.unique (rowT_due P now m)
  rw [hds]
  show (tickL now (rowT P now m) { d with tm := restL (rowT P now m) now } []).2 = _ ∧ (tickL now (rowT P now m) { d with tm := restL (rowT P now m) now } []).1.tm.length = m
  rw [rowT_rest]
  have hrow : rowT P now m = (List.range m).map (fun (i : Nat) => (((P + (0 + i) : Nat) : Int), now)) := by simp [rowT]
  have ht := tickL_row now P m 0 { d with tm := [] } [] (by show 1 ≤ d.retry; omega) (by show 0 + m < 1000; omega)
    (fun i hi => by
      show d.tries.getD (P + (0 + i)) 0 = 0
      rw [htri, List.getD_eq_getElem?_getD, List.getElem?_replicate]
      split <;> rfl) (fun i hi => rfl)
  rw [hrow]
  refine ⟨ht.1.trans ?_, ht.2.trans (by show 0 + m = m; omega)⟩
  rw [List.nil_append]
  refine List.map_congr_left (fun i hi => ?_)
  have hi2 : i < m := List.mem_range.1 hi
  show ofG { d with tm := [] } (P + (0 + i)) = _
  unfold ofG
  dsimp only
  rw [hsz, hPP, if_neg (by omega), hses, hsm, hch, chsP_length, hQQ]
  have e1 : P + (0 + i) - P = i := by omega
  rw [e1]
  congr 1
  unfold chsP
  rw [hQQ, List.getD_eq_getElem?_getD, List.getElem?_map, List.getElem?_range (by omega)]
  rfl
end Go.Proofs.YtfkcpaahdlkcdaaGreat

import Derived.Test.YtfkcpaahdlkcdaaGreatM29
import Derived.Test.YtfkcpaahdlkcdaaGreatRows
import Derived.KernelRfl
import Derived.JoinedOf
import Derived.OpenShut
import Derived.ShutString
import Derived.ChangeOld
import Derived.SizedLaws
/-! Joined: JoinSendForeign, SrE, SrF. -/
set_option linter.unusedSimpArgs false
set_option linter.unusedVariables false
namespace Go.Proofs.YtfkcpaahdlkcdaaGreat.sendForeign
open Go.RowKit
theorem fnamed : Tryz.pinned.checked.prog.funcNamed Rows.sendForeignRow.func = some 6 := by kernel_rfl
theorem instd : Tryz.f6.isInstance Tryz.pinned.checked.prog Rows.sendForeignRow.origin Rows.sendForeignRow.targs := of_decide_eq_true (by kernel_rfl)
theorem wrapd : Tryz.f6.isWrapper Tryz.pinned.checked.prog Rows.sendForeignRow.wrapper Rows.sendForeignRow.mainSum := by unfold Func.isWrapper; first | (rw [if_pos (by decide +kernel)]; kernel_rfl) | (rw [if_neg (by decide +kernel)]; exact ⟨rfl, rfl⟩)
theorem joined : joinedFacts Tryz.pinned.checked.prog 6 Tryz.f6 Rows.sendForeignSpec Rows.sendForeignRow = true := by kernel_rfl
end Go.Proofs.YtfkcpaahdlkcdaaGreat.sendForeign
set_option linter.unusedSimpArgs false
set_option linter.unusedVariables false
namespace Go.Proofs.YtfkcpaahdlkcdaaGreat
open Go.RowKit

section
variable {P : Program} {ops : Array Oper} {Q : Exit → Act → World → Prop} {ds : List Nat} {S : Nat → Prop} {R : Act → World → Prop} {acts reads : List Nat} {rest : List Nat} {i : Nat} {o : Oper} {a : Act} {w : World}
/-- A call of a Go function, behind a guard. -/
theorem ord_callG {N : Option Tmp} {f : FuncId} {fn : Func} {xs : Array Operand} {ts : Array TypeId} (hl : ops.toList[i]? = some o) (ha : acts.contains i = true) (hN : o.dst = N) (hg : Region.wanted o (yielded ops a.tmps) = true)
    (hop : o.op = .call { callee := .value (.func f), args := xs, argTypes := ts }) (hf : P.funcs[f]? = some fn) (hname : (fn.name == "runtime.NumGoroutine") = false) (hb : fn.body.isSome = true) (args : List Value) (hargs : xs.toList.map a.eval = args)
    (h : Calls P f args.toArray w fun e w' => ∃ v, e = .returned v ∧ (i ∉ ds → Keep S w w') ∧ wpOrdC S P ops Q R acts reads ds rest (a.put N v) w') : wpOrdC S P ops Q R acts reads ds (i :: rest) a w := by
  refine ord_act hl ha (fun K hK => ?_)
  rw [if_pos hg]
  subst hN
  unfold Oper.wp
  have h1 : fn.name ≠ "runtime.NumGoroutine" := by simpa using hname
  obtain ⟨c, hc⟩ := Option.isSome_iff_exists.1 hb
  have hcall : (callFunc f args.toArray).run P w = .ok (.enter f args.toArray) w := by simp [callFunc, hf, h1, hc]
  have he : (execOp a.eval o).run P w = .ok (.enter f args.toArray) w := by
    unfold execOp
    have hx : xs.map a.eval = args.toArray := by rw [← hargs]; apply Array.ext'; simp
    rw [hop]
    simp [resolve, Deferred.ofValue, invoke, Act.eval, hx, hcall]
  rw [he, Oper.upon_enter]
  refine h.mono fun e w'' hh => ?_
  obtain ⟨v, rfl, h1, h2⟩ := hh
  exact hK _ _ ⟨h1, h2⟩
end

set_option maxRecDepth 100000 in
set_option maxHeartbeats 4000000 in
theorem take_reject {g : Nat} {p : SP} {d : Snd} {Fq G : Nat → Prop} {w : World} (h : SAt g p d Fq G w) (session index of : Int) (sum : Nat) (hs : session ≠ d.session) (A1 A2 : Option Addr) (n1 c1' n2 c2' : Nat) :
    Calls Tryz.prog 29 #[.pointer (some ⟨g, 0, none⟩), .agg #[.int .i64 4, .int .u64 session, .int .i64 index, .int .i64 of, .int .u32 (sum : Nat), .slice A1 n1 c1', .slice A2 n2 c2']] w fun e w' => ∃ b, e = .returned (.slice (some ⟨b, 0, none⟩) 1 1) ∧ OneG w' b 5 session 32 0 sum ∧ Grow w w' ∧ w.heap.size ≤ b := by
  have hd0 := (Keep.refl NoB w).alloc (.cells #[.int .i64 4, .int .u64 session, .int .i64 index, .int .i64 of, .int .u32 (sum : Nat), .slice A1 n1 c1', .slice A2 n2 c2'] 46)
  have HG := Lib.hid hd0
  have HC := Lib.hid (heap_alloc_new w (.cells #[.int .i64 4, .int .u64 session, .int .i64 index, .int .i64 of, .int .u32 (sum : Nat), .slice A1 n1 c1', .slice A2 n2 c2'] 46))
  have H := Lib.hid (h.grow hd0)
  have hsz0 := hd0.size
  have hss : (session == d.session) = false := by simpa using hs
  clear h hd0
  go_enter Tryz.func29, Tryz.ntmps29
  go_wp2
  generalize w.alloc (.cells #[.int .i64 4, .int .u64 session, .int .i64 index, .int .i64 of, .int .u32 (sum : Nat), .slice A1 n1 c1', .slice A2 n2 c2'] 46) = w1 at HG H HC hsz0 ⊢
  obtain ⟨c0, c1, c2, c3, c4, c5, c6, c7, c8, c9, c10, c11, c12, c13, c14, cf⟩ := cells15 H.out.cell
  obtain ⟨z0, z1, z2, z3, z4, z5, z6, zf⟩ := cells7 HC.out
  refine region_ord [0, 1, 2, 3, 4, 5, 6, 7] [7] [1, 5] [] rfl (by kernel_rfl) ?_
  refine ord_pure rfl rfl rfl rfl rfl (fun _ _ _ _ h => h) ?_ ?_ ?_ ?_ ?_
  rotate_left 2
  · intro w'; go_simp; with_reducible rfl
  · simp only [Act.put, List.setIfInBounds_toArray, List.set_cons_zero, List.set_cons_succ]; rfl
  refine ord_read rfl rfl rfl rfl rfl (fun _ _ _ _ h => h) ?_ ?_ ?_ ?_ ?_
  rotate_left 2
  · intro w' hg; have q := hg.cell z1 (fun h => h); go_simp; with_reducible rfl
  · simp only [Act.put, List.setIfInBounds_toArray, List.set_cons_zero, List.set_cons_succ]; rfl
  iterate 3
    refine ord_pure rfl rfl rfl rfl rfl (fun _ _ _ _ h => h) ?_ ?_ ?_ ?_ ?_
    rotate_left 2
    · intro w'; go_simp; with_reducible rfl
    · simp only [Act.put, List.setIfInBounds_toArray, List.set_cons_zero, List.set_cons_succ]; rfl
  refine ord_read rfl rfl rfl rfl rfl (fun _ _ _ _ h => h) ?_ ?_ ?_ ?_ ?_
  rotate_left 2
  · intro w' hg; have q := hg.cell c14 (fun h => h); go_simp; with_reducible rfl
  · simp only [Act.put, List.setIfInBounds_toArray, List.set_cons_zero, List.set_cons_succ]; rfl
  refine ord_pure rfl rfl rfl rfl rfl (fun _ _ _ _ h => h) ?_ ?_ ?_ ?_ ?_
  rotate_left 2
  · intro w'; go_simp; with_reducible rfl
  · simp only [Act.put, List.setIfInBounds_toArray, List.set_cons_zero, List.set_cons_succ]; rfl
  refine ord_set rfl rfl rfl rfl ?_ ?_ ?_ ?_ ?_
  rotate_left 2
  · go_simp; with_reducible rfl
  · simp only [Act.put, List.setIfInBounds_toArray, List.set_cons_zero, List.set_cons_succ]; rfl
  refine ord_nil ?_
  replace HG := Lib.hid HG.out.drew
  replace HC := Lib.hid (show w1.drew.heap[_]? = _ from HC.out)
  replace H := Lib.hid (H.out.grow (Keep.refl NoB w1).drew)
  replace hsz0 : w.heap.size ≤ w1.drew.heap.size := hsz0
  generalize w1.drew = w2 at HG H HC hsz0 ⊢
  clear c0 c1 c2 c3 c4 c5 c6 c7 c8 c9 c10 c11 c12 c13 c14 cf z0 z1 z2 z3 z4 z5 z6 zf
  obtain ⟨c0, c1, c2, c3, c4, c5, c6, c7, c8, c9, c10, c11, c12, c13, c14, cf⟩ := cells15 H.out.cell
  obtain ⟨z0, z1, z2, z3, z4, z5, z6, zf⟩ := cells7 HC.out
  go_wp2
  refine region_ord [0, 1, 2, 3, 4, 5, 6, 7, 8, 9, 10, 11, 12, 13, 14, 15, 16, 17] [17] [1, 8, 13] [] rfl (by kernel_rfl) ?_
  refine ord_pure rfl rfl rfl rfl rfl (fun _ _ _ _ h => h) ?_ ?_ ?_ ?_ ?_
  rotate_left 2
  · intro w'; go_simp; with_reducible rfl
  · simp only [Act.put, List.setIfInBounds_toArray, List.set_cons_zero, List.set_cons_succ]; rfl
  refine ord_read rfl rfl rfl rfl rfl (fun _ _ _ _ h => h) ?_ ?_ ?_ ?_ ?_
  rotate_left 2
  · intro w' hg; have q := hg.cell z0 (fun h => h); go_simp; with_reducible rfl
  · simp only [Act.put, List.setIfInBounds_toArray, List.set_cons_zero, List.set_cons_succ]; rfl
  iterate 2
    refine ord_pure rfl rfl rfl rfl rfl (fun _ _ _ _ h => h) ?_ ?_ ?_ ?_ ?_
    rotate_left 2
    · intro w'; go_simp; with_reducible rfl
    · simp only [Act.put, List.setIfInBounds_toArray, List.set_cons_zero, List.set_cons_succ]; rfl
  iterate 3
    refine ord_pureG rfl rfl rfl rfl rfl (fun _ _ _ _ h => h) ?_ ?_ ?_ ?_ ?_
    rotate_left 2
    · intro w'; go_simp; with_reducible rfl
    · simp only [Act.put, List.setIfInBounds_toArray, List.set_cons_zero, List.set_cons_succ]; rfl
  iterate 8
    refine ord_skip rfl rfl rfl rfl (fun _ _ _ _ h => h) ?_ ?_ ?_
    rotate_left 1
    · simp only [Act.put, List.setIfInBounds_toArray, List.set_cons_zero, List.set_cons_succ]; rfl
  refine ord_pureG rfl rfl rfl rfl rfl (fun _ _ _ _ h => h) ?_ ?_ ?_ ?_ ?_
  rotate_left 2
  · intro w'; go_simp; with_reducible rfl
  · simp only [Act.put, List.setIfInBounds_toArray, List.set_cons_zero, List.set_cons_succ]; rfl
  refine ord_pure rfl rfl rfl rfl rfl (fun _ _ _ _ h => h) ?_ ?_ ?_ ?_ ?_
  rotate_left 2
  · intro w'; go_simp; with_reducible rfl
  · simp only [Act.put, List.setIfInBounds_toArray, List.set_cons_zero, List.set_cons_succ]; rfl
  refine ord_set rfl rfl rfl rfl ?_ ?_ ?_ ?_ ?_
  rotate_left 2
  · go_simp; with_reducible rfl
  · simp only [Act.put, List.setIfInBounds_toArray, List.set_cons_zero, List.set_cons_succ]; rfl
  refine ord_nil ?_
  replace HG := Lib.hid HG.out.drew
  replace HC := Lib.hid (show w2.drew.heap[_]? = _ from HC.out)
  replace H := Lib.hid (H.out.grow (Keep.refl NoB w2).drew)
  replace hsz0 : w.heap.size ≤ w2.drew.heap.size := hsz0
  generalize w2.drew = w3 at HG H HC hsz0 ⊢
  clear c0 c1 c2 c3 c4 c5 c6 c7 c8 c9 c10 c11 c12 c13 c14 cf z0 z1 z2 z3 z4 z5 z6 zf
  obtain ⟨z0, z1, z2, z3, z4, z5, z6, zf⟩ := cells7 HC.out
  go_wp2
  go_ret
  exact ⟨w3.heap.size, rfl, heap_alloc_new w3 _, HG.out.alloc _, hsz0⟩
end Go.Proofs.YtfkcpaahdlkcdaaGreat
set_option linter.unusedSimpArgs false
set_option linter.unusedVariables false
namespace Go.Proofs.YtfkcpaahdlkcdaaGreat
open Go.ChangeShapes Go.WideShapes Go.ChangeAt Go.RowKit

set_option maxRecDepth 100000 in
/-- An argument: a datagram. -/
theorem arg_gram {H : Type} {enc : TypeId × Value → H} {W : World} {held : Bool} {base : Nat} {v : Value} {d : DataW H} {ps : List MemPlace}
    (hv : Value.okWide Tryz.prog W .any base 46 v)
    (h : DataW.Trod enc Tryz.prog W 0 (fun _ => true) held 46 v d ps) :
    ∃ (k s i o : Int) (m : Nat) (A1 : Option Addr) (n1 c1 : Nat) (A2 : Option Addr) (n2 c2 : Nat), v = .agg #[.int .i64 k, .int .u64 s, .int .i64 i, .int .i64 o, .int .u32 (m : Nat), .slice A1 n1 c1, .slice A2 n2 c2] ∧
      (-9223372036854775808 ≤ k ∧ k ≤ 9223372036854775807) ∧ (0 ≤ s ∧ s ≤ 18446744073709551615) := by
  obtain ⟨⟨l⟩, rfl, hsz⟩ := okWide_struct Tryz.underlying46 hv
  obtain ⟨fuel, hf⟩ := h
  obtain ⟨xs, n, _, _, hl, hlen, hi⟩ := DataW.trod_struct Tryz.underlying46 hf
  have hcell : Tryz.prog.cellsOf 46 = 7 := by kernel_rfl
  have hci : Tryz.prog.cellsOf 3 = 1 := by kernel_rfl
  have hcu : Tryz.prog.cellsOf 22 = 1 := by kernel_rfl
  have hcw : Tryz.prog.cellsOf 38 = 1 := by kernel_rfl
  have hcs : Tryz.prog.cellsOf 37 = 1 := by kernel_rfl
  have hcb : Tryz.prog.cellsOf 23 = 1 := by kernel_rfl
  have hl7 : l.length = 7 := by rw [← hcell]; exact hl
  change xs.length = 7 at hlen
  match l, hl7, xs, hlen with
  | [x0, x1, x2, x3, x4, x5, x6], _, [y0, y1, y2, y3, y4, y5, y6], _ =>
    have h0 := hi 0 _ rfl
    have h1 := hi 1 _ rfl
    have h2 := hi 2 _ rfl
    have h3 := hi 3 _ rfl
    have h4 := hi 4 _ rfl
    have h5 := hi 5 _ rfl
    have h6 := hi 6 _ rfl
    simp [Value.cells, hci, hcu, hcw, hcs, hcb] at h0 h1 h2 h3 h4 h5 h6
    obtain ⟨k, e0, _, w0⟩ := DataW.trod_int Tryz.underlying3 h0
    obtain ⟨s, e1, _, w1⟩ := DataW.trod_int Tryz.underlying22 h1
    obtain ⟨i, e2, _, _⟩ := DataW.trod_int Tryz.underlying3 h2
    obtain ⟨o, e3, _, _⟩ := DataW.trod_int Tryz.underlying3 h3
    obtain ⟨m, e4, _, w4⟩ := DataW.trod_int Tryz.underlying38 h4
    have hs5 : ∃ A n c, x5 = .slice A n c := by
      rcases Go.Deep.open_slice Tryz.underlying37 h5 with ⟨e, _⟩ | ⟨a, len, cap, _, _, _, _, e, _⟩
      · exact ⟨_, _, _, by simpa using e⟩
      · exact ⟨_, _, _, by simpa using e⟩
    have hs6 : ∃ A n c, x6 = .slice A n c := by
      rcases Go.Deep.open_slice Tryz.underlying23 h6 with ⟨e, _⟩ | ⟨a, len, cap, _, _, _, _, e, _⟩
      · exact ⟨_, _, _, by simpa using e⟩
      · exact ⟨_, _, _, by simpa using e⟩
    obtain ⟨A1, n1, c1, rfl⟩ := hs5
    obtain ⟨A2, n2, c2, rfl⟩ := hs6
    simp only [List.cons.injEq, and_true] at e0 e1 e2 e3 e4
    subst e0 e1 e2 e3 e4
    have hm : 0 ≤ m := by
      have : 0 ≤ m ∧ m ≤ 4294967295 := by simpa [Lit.wf, show IntKind.u32.min = 0 from rfl, show IntKind.u32.max = 4294967295 from rfl] using w4
      exact this.1
    obtain ⟨m', rfl⟩ : ∃ m' : Nat, m = m' := ⟨m.toNat, by omega⟩
    exact ⟨k, s, i, o, m', A1, n1, c1, A2, n2, c2, rfl, by simpa [Lit.wf, show IntKind.i64.min = -9223372036854775808 from rfl, show IntKind.i64.max = 9223372036854775807 from rfl] using w0, by simpa [Lit.wf, show IntKind.u64.min = 0 from rfl, show IntKind.u64.max = 18446744073709551615 from rfl] using w1⟩
end Go.Proofs.YtfkcpaahdlkcdaaGreat

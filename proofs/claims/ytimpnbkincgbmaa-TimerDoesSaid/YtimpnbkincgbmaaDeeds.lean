import Derived.Test.YtimpnbkincgbmaaNetQ
import Derived.Deep.Strs
set_option linter.unusedSimpArgs false
set_option linter.unusedVariables false
namespace Go.Proofs.Ytimpnbkincgbmaa
open Go.ChangeShapes Go.WideShapes Go.ChangeAt Go.RowKit

theorem add_off (a : Addr) (m k : Nat) : (a.add m).add (k + 1) = ⟨(a.add m).block, (a.add m).off + (k + 1), none⟩ := by
  generalize a.add m = b
  simp [Addr.add]
theorem Foot.old {size n : Nat} {v : Value} {vs : List Value} {w : World} (h : SliceR size v n vs w) : Foot (SliceR size v n vs) w (fun k => k < w.heap.size) := by
  refine ⟨fun k hk => hk, fun W' hW => ?_⟩
  obtain ⟨A, c, h1, h2, h3, h4, h5⟩ := h
  refine ⟨A, c, h1, h2, h3, h4, fun j u hu => ?_⟩
  obtain ⟨ad, e, hc⟩ := h5 j u hu
  exact ⟨ad, e, (World.cell?_of_block (w := w) (hW _ (World.block_lt_of_cell? _ _ hc))).trans hc⟩
/-- An argument: a list of deeds. -/
theorem arg_des {H : Type} {enc : TypeId × Value → H} {W : World} {held : Bool} {a : Option Addr} {len cap : Nat} {d : DataW H} {ps : List MemPlace}
    (h : DataW.Trod enc Try.prog W 0 (fun _ => true) held 35 (.slice a len cap) d ps) :
    ∃ ds : List De, DesR a ds (fun k => k < W.heap.size) W ∧ ds.length = len ∧ ds.length ≤ cap ∧ cap ≤ maxLen := by
  obtain ⟨fuel, hf⟩ := h
  have hcell : Try.prog.cellsOf 41 = 3 := by kernel_rfl
  have hc5 : Try.prog.cellsOf 5 = 1 := by kernel_rfl
  have hc3 : Try.prog.cellsOf 3 = 1 := by kernel_rfl
  have hc23 : Try.prog.cellsOf 23 = 1 := by kernel_rfl
  rcases Go.Deep.open_slice Try.underlying35 hf with ⟨hcs, _⟩ | ⟨a, len, cap, m, n, D, Pl, hcs, hb, hl, hm, hmm, hx, hi⟩
  · simp [Value.cells] at hcs
    obtain ⟨rfl, rfl, rfl⟩ := hcs
    exact ⟨[], fun i hi => by simp at hi, rfl, Nat.le_refl _, Nat.zero_le _⟩
  · simp [Value.cells] at hcs
    obtain ⟨rfl, rfl, rfl⟩ := hcs
    simp only [if_true] at hmm
    have one : ∀ i, i < len → ∃ x : De × Option Addr × Nat, W.cell? (a.add (i * 3)) = some (.int .u8 x.1.k) ∧ W.cell? ⟨(a.add (i * 3)).block, (a.add (i * 3)).off + 1, none⟩ = some (.int .i64 x.1.i) ∧ W.cell? ⟨(a.add (i * 3)).block, (a.add (i * 3)).off + 2, none⟩ = some (.slice x.2.1 x.1.b.length x.2.2) ∧
        Foot (SliceR 1 (.slice x.2.1 x.1.b.length x.2.2) x.1.b.length (u8s x.1.b)) W (fun k => k < W.heap.size) ∧ 0 ≤ x.1.k ∧ x.1.k ≤ 255 := fun i hil => by
      obtain ⟨cs', hc, ht⟩ := hi i (by omega)
      rw [hcell] at hc
      obtain ⟨_, hlen, hat⟩ := World.cells?_some hc
      match cs', hlen with
      | [c0, c1, c2], _ =>
        obtain ⟨y0, y1, y2, n', _, _, h0, h1, h2⟩ := Go.Deep.trod_struct3 Try.underlying41 ht
        simp [hc5, hc3, hc23] at h0 h1 h2
        obtain ⟨k, e0, _, w0⟩ := DataW.trod_int u_u8 h0
        obtain ⟨z, e1, _, _⟩ := DataW.trod_int Try.underlying3 h1
        simp only [List.cons.injEq, and_true] at e0 e1
        subst e0
        subst e1
        have g0 := hat 0 (by omega)
        have g1 := hat 1 (by omega)
        have g2 := hat 2 (by omega)
        rw [add_off] at g1 g2
        simp only [Addr.add, if_true] at g0
        have hk : 0 ≤ k ∧ k ≤ 255 := by simpa [Lit.wf, show IntKind.u8.min = 0 from rfl, show IntKind.u8.max = 255 from rfl] using w0
        rcases open_ints u_bytes u_u8 hc5 h2 with ⟨e2, _⟩ | ⟨a2, l2, c2, zs, e2, _, hl2, hm2, hz2, _, hcc, _⟩
        · simp only [List.cons.injEq, and_true] at e2
          subst e2
          exact ⟨(⟨k, z, []⟩, none, 0), g0, g1, g2, Foot.old (sliceR_nil W), hk.1, hk.2⟩
        · simp only [List.cons.injEq, and_true] at e2
          subst e2
          have hz : zs.length = c2 := by simpa using hz2
          have hlen2 : (zs.take l2).length = l2 := by rw [List.length_take]; omega
          refine ⟨(⟨k, z, zs.take l2⟩, some a2, c2), g0, g1, ?_, Foot.old (bytes_of_ints hl2 hz hcc), hk.1, hk.2⟩
          show W.cell? _ = some (.slice (some a2) (zs.take l2).length c2)
          rw [hlen2]
          exact g2
    have : Inhabited De := ⟨⟨0, 0, []⟩⟩
    obtain ⟨f, hfn⟩ := Go.Deep.choose_lt one
    refine ⟨(List.range len).map fun i => (f i).1, fun j hj => ?_, by simp, by simpa using hl, hm⟩
    have hj' : j < len := by simpa using hj
    have e : ((List.range len).map fun i => (f i).1)[j] = (f j).1 := by simp
    rw [e]
    exact ⟨a, (f j).2.1, (f j).2.2, rfl, hfn j hj'⟩
end Go.Proofs.Ytimpnbkincgbmaa

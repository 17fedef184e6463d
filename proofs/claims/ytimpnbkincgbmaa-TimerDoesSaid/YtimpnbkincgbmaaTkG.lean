import Derived.Test.YtimpnbkincgbmaaTkF
import Derived.Test.YtimpnbkincgbmaaDeeds
set_option linter.unusedSimpArgs false
set_option linter.unusedVariables false
namespace Go.Proofs.Ytimpnbkincgbmaa
open Go.ChangeShapes Go.WideShapes Go.ChangeAt Go.RowKit

/-- An argument: a list of deeds of a queue. -/
theorem arg_tds {H : Type} {enc : TypeId × Value → H} {W : World} {held : Bool} {a : Option Addr} {len cap : Nat} {d : DataW H} {ps : List MemPlace}
    (h : DataW.Trod enc Try.prog W 0 (fun _ => true) held 63 (.slice a len cap) d ps) :
    ∃ ds : List TDe, TDesR a ds W ∧ ds.length = len ∧ ds.length ≤ cap ∧ cap ≤ maxLen := by
  obtain ⟨fuel, hf⟩ := h
  have hcell : Try.prog.cellsOf 68 = 3 := by kernel_rfl
  have hc5 : Try.prog.cellsOf 5 = 1 := by kernel_rfl
  have hc3 : Try.prog.cellsOf 3 = 1 := by kernel_rfl
  rcases Go.Deep.open_slice Try.underlying63 hf with ⟨hcs, _⟩ | ⟨a, len, cap, m, n, D, Pl, hcs, hb, hl, hm, hmm, hx, hi⟩
  · simp [Value.cells] at hcs
    obtain ⟨rfl, rfl, rfl⟩ := hcs
    exact ⟨[], fun i hi => by simp at hi, rfl, Nat.le_refl _, Nat.zero_le _⟩
  · simp [Value.cells] at hcs
    obtain ⟨rfl, rfl, rfl⟩ := hcs
    simp only [if_true] at hmm
    have one : ∀ i, i < len → ∃ x : TDe, W.cell? (a.add (i * 3)) = some (.int .u8 x.k) ∧ W.cell? ⟨(a.add (i * 3)).block, (a.add (i * 3)).off + 1, none⟩ = some (.int .i64 x.i) ∧ W.cell? ⟨(a.add (i * 3)).block, (a.add (i * 3)).off + 2, none⟩ = some (.int .i64 x.t) ∧ 0 ≤ x.k ∧ x.k ≤ 255 ∧ okI x.i := fun i hil => by
      obtain ⟨cs', hc, ht⟩ := hi i (by omega)
      rw [hcell] at hc
      obtain ⟨_, hlen, hat⟩ := World.cells?_some hc
      match cs', hlen with
      | [c0, c1, c2], _ =>
        obtain ⟨y0, y1, y2, n', _, _, h0, h1, h2⟩ := Go.Deep.trod_struct3 Try.underlying68 ht
        simp [hc5, hc3] at h0 h1 h2
        obtain ⟨k, e0, _, w0⟩ := DataW.trod_int u_u8 h0
        obtain ⟨z, e1, _, w1⟩ := DataW.trod_int Try.underlying3 h1
        obtain ⟨t, e2, _, _⟩ := DataW.trod_int Try.underlying3 h2
        simp only [List.cons.injEq, and_true] at e0 e1 e2
        subst e0
        subst e1
        subst e2
        have g0 := hat 0 (by omega)
        have g1 := hat 1 (by omega)
        have g2 := hat 2 (by omega)
        rw [add_off] at g1 g2
        simp only [Addr.add, if_true] at g0
        have hk : 0 ≤ k ∧ k ≤ 255 := by simpa [Lit.wf, show IntKind.u8.min = 0 from rfl, show IntKind.u8.max = 255 from rfl] using w0
        exact ⟨⟨k, z, t⟩, g0, g1, g2, hk.1, hk.2, w1⟩
    have : Inhabited TDe := ⟨⟨0, 0, 0⟩⟩
    obtain ⟨f, hfn⟩ := Go.Deep.choose_lt one
    refine ⟨(List.range len).map f, fun j hj => ?_, by simp, by simpa using hl, hm⟩
    have hj' : j < len := by simpa using hj
    have e : ((List.range len).map f)[j] = f j := by simp
    rw [e]
    exact ⟨a, rfl, hfn j hj'⟩
end Go.Proofs.Ytimpnbkincgbmaa

/- The statement 'NetBends' of layer 19, for every input: the call returns true, and each argument reads behind it as it read before. Conditions: none. -/
import Derived.Test.YtimpnbkincgbmaaRows
import Derived.Test.YtimpnbkincgbmaaNetI
import Derived.OpenShut
import Derived.ShutString
import Derived.ChangeOld
import Derived.SizedLaws
import Derived.Deep.Matrix
set_option linter.unusedSimpArgs false
set_option linter.unusedVariables false
namespace Go.Proofs.Ytimpnbkincgbmaa.netBends
open Go.ChangeShapes Go.WideShapes Go.ChangeAt Go.RowKit
open Go.ChangeMaps (open_string shut_string)

theorem own : ownKnob Try.prog.godebug = none := by kernel_rfl
theorem laidOut : laidOutB Try.prog = true := by kernel_rfl

/-- A list of lists of bytes, as the form reads it. -/
theorem bss_of_rows {a : Addr} {len cap : Nat} {A : Nat → Option Addr} {L C : Nat → Nat} {Z : Nat → List Int} {W : World} (hl : len ≤ cap)
    (h : ∀ r, r < cap → W.cell? (a.add r) = some (.slice (A r) (L r) (C r)) ∧ L r ≤ C r ∧ C r ≤ maxLen ∧ (Z r).length = C r ∧ (∀ n ∈ Z r, (Lit.int .u8 n).wf = true) ∧ (A r = none → C r = 0) ∧
        ∀ a', A r = some a' → 0 ≤ a'.block ∧ ∀ c, c < C r → W.cell? (a'.add c) = some (.int .u8 ((Z r).getD c 0))) :
    BssR (some a) ((List.range len).map fun r => (Z r).take (L r)) W := by
  intro i hi
  have hi' : i < len := by simpa using hi
  obtain ⟨h1, h2, h3, h4, _, h6, h7⟩ := h i (by omega)
  have hx : ((List.range len).map fun r => (Z r).take (L r))[i] = (Z i).take (L i) := by simp
  rw [hx]
  have hlen : ((Z i).take (L i)).length = L i := by rw [List.length_take]; omega
  rw [hlen]
  refine ⟨a, A i, C i, rfl, h1, h2, h3, A i, C i, rfl, h2, by simp; omega, h6, fun j u hu => ?_⟩
  have hj : j < L i := by
    rcases Nat.lt_or_ge j (L i) with h | h
    · exact h
    · rw [List.getElem?_eq_none (by simp; omega)] at hu; cases hu
  cases hA : A i with
  | none => have := h6 hA; omega
  | some a' =>
    refine ⟨a', rfl, ?_⟩
    rw [(h7 a' hA).2 j (by omega)]
    rw [u8s, List.getElem?_map, List.getElem?_take, if_pos hj] at hu
    rw [List.getD_eq_getElem?_getD]
    rw [List.getElem?_eq_getElem (by omega)] at hu ⊢
    simpa using hu
theorem bytes_of_ints {a : Addr} {len cap : Nat} {zs : List Int} {W : World} (hl : len ≤ cap) (hz : zs.length = cap) (h : ∀ i, i < zs.length → W.cell? (a.add i) = some (.int .u8 (zs.getD i 0))) :
    SliceR 1 (.slice (some a) (zs.take len).length cap) (zs.take len).length (u8s (zs.take len)) W := by
  have hlen : (zs.take len).length = len := by rw [List.length_take]; omega
  rw [hlen]
  refine ⟨some a, cap, rfl, hl, by simp; omega, (fun e => by cases e), fun j u hu => ⟨a, rfl, ?_⟩⟩
  have hj : j < len := by
    rcases Nat.lt_or_ge j len with h | h
    · exact h
    · rw [List.getElem?_eq_none (by simp; omega)] at hu; cases hu
  rw [h j (by omega)]
  rw [u8s, List.getElem?_map, List.getElem?_take, if_pos hj] at hu
  rw [List.getD_eq_getElem?_getD]
  rw [List.getElem?_eq_getElem (by omega)] at hu ⊢
  simpa using hu

set_option maxRecDepth 100000 in
theorem lifted (os : Os) (started : os.Started) (H : Type) (enc : TypeId × Value → H) :
    ReturnsInHanded {} Try.checked os 3 .any (Rows.netBendsSpec.pre6 enc Try.prog Try.f3 Rows.netBendsRow.domain false) (Rows.netBendsSpec.post enc Try.prog Try.f3 false true false false) := by
  refine returnsInHanded_of_change_sized (C := Try.checked) own started (by kernel_rfl) Try.func3
    (ChangeSpec.witness6 (enc := enc) (C := Try.checked) false ⟨#[], #[.slice none 0 0, .int .u8 0, .slice none 0 0], []⟩ 8 (by kernel_rfl) (by kernel_rfl) (by kernel_rfl) (by kernel_rfl)) ?_
  intro W base args ds gs before hval0 hW hcnd hsz0 _
  have hval : ∀ (j : Nat) t v, Try.f3.params[j]? = some t → args[j]? = some v → Value.okWide Try.prog W .any base t v := hval0
  have hW' := hW
  obtain ⟨p, q, hA0, hV, rfl, hfz, hnd⟩ := hW
  have hA : DataW.TrodAll enc Try.prog W 0 (fun _ => true) true Try.f3.params.toList args.toList ds p := hA0
  rw [Try.params3] at hA hval
  obtain ⟨v0, vs0, d0, ds0, p0, q0, hargs, rfl, rfl, h0, r0⟩ := trodAll_cons hA
  obtain ⟨v1, vs1, d1, ds1, p1, q1, rfl, rfl, rfl, h1, r1⟩ := trodAll_cons r0
  obtain ⟨v2, vs2, d2, ds2, p2, q2, rfl, rfl, rfl, h2, r2⟩ := trodAll_cons r1
  obtain ⟨rfl, rfl, rfl⟩ := trodAll_nil r2
  obtain rfl : args = #[v0, v1, v2] := by cases args; simp_all
  obtain ⟨rfl, rfl⟩ := trodVars_none hV
  have k0 := h0
  have lt0 : ∀ x ∈ p0, x.block < W.heap.size := by obtain ⟨m, hm⟩ := k0; exact DataW.trod_lt m _ _ _ hm
  have k2 := h2
  have lt2 : ∀ x ∈ p2, x.block < W.heap.size := by obtain ⟨m, hm⟩ := k2; exact DataW.trod_lt m _ _ _ hm
  obtain ⟨a0, len0, cap0, rfl⟩ := okWide_slice Try.underlying22 (hval 0 22 v0 rfl rfl)
  obtain ⟨a2, len2, cap2, rfl⟩ := okWide_slice Try.underlying23 (hval 2 23 v2 rfl rfl)
  obtain ⟨ls, hls, hll, hlc, hlm⟩ : ∃ ls, BssR a0 ls W ∧ ls.length = len0 ∧ ls.length ≤ cap0 ∧ cap0 ≤ maxLen := by
    obtain ⟨fuel, hf⟩ := h0
    rcases Go.Deep.open_int_rows Try.underlying22 Try.underlying23 Try.underlying5 (by kernel_rfl) (by kernel_rfl) hf with ⟨hcs, _⟩ | ⟨a, len, cap, A, L, C, Z, hcs, _, hl, hm, _, hrows⟩
    · simp [Value.cells] at hcs
      obtain ⟨rfl, rfl, rfl⟩ := hcs
      exact ⟨[], fun i hi => by simp at hi, rfl, Nat.le_refl _, Nat.zero_le _⟩
    · simp [Value.cells] at hcs
      obtain ⟨rfl, rfl, rfl⟩ := hcs
      exact ⟨_, bss_of_rows hl hrows, by simp, by simpa using hl, hm⟩
  obtain ⟨b, hb, hbl⟩ : ∃ b : List Int, SliceR 1 (.slice a2 b.length cap2) b.length (u8s b) W ∧ b.length = len2 := by
    obtain ⟨fuel, hf⟩ := h2
    rcases open_ints Try.underlying23 Try.underlying5 (by kernel_rfl) hf with ⟨hcs, _⟩ | ⟨x, l, c, zs, hcs, _, hl, hm, hz, _, hcell, hwz⟩
    · simp [Value.cells] at hcs
      obtain ⟨rfl, rfl, rfl⟩ := hcs
      exact ⟨[], ⟨none, 0, rfl, Nat.le_refl _, rfl, fun _ => rfl, fun j u hu => by simp at hu⟩, rfl⟩
    · simp [Value.cells] at hcs
      obtain ⟨rfl, rfl, rfl⟩ := hcs
      have hz' : zs.length = cap2 := by simpa using hz
      exact ⟨zs.take len2, bytes_of_ints hl hz' hcell, by rw [List.length_take]; omega⟩
  obtain ⟨i, rfl, rfl, rfl, wi⟩ := open_int Try.underlying5 (hval 1 5 v1 rfl rfl) h1
  have wi' := wi
  simp [Lit.wf] at wi'
  have m0 : IntKind.u8.min = 0 := rfl
  have m1 : IntKind.u8.max = 255 := rfl
  subst hll
  subst hbl
  clear hA0 hval0 hsz0
  refine (bends_calls a0 cap0 ls i a2 cap2 b W hls hlc hlm (by omega) (by omega) hb).mono fun e W' ⟨he, hg⟩ => ?_
  subst he
  have bel : Below W.heap.size W W' := hg.below _ (Nat.le_refl _) (fun _ h => h.elim)
  exact ⟨_, rfl, _, _, _, [], _, [], hW', trodAll_mk1 (shut_bool Try.underlying4 _),
    (trodAll_cons_mk (Below.trod laidOut (by kernel_rfl) (of_decide_eq_true (by kernel_rfl)) k0 bel lt0) (trodAll_cons_mk (shut_int Try.underlying5 wi) (trodAll_cons_mk (Below.trod laidOut (by kernel_rfl) (of_decide_eq_true (by kernel_rfl)) k2 bel lt2) trodAll_mk0))), rfl, bel.frame _, fun h => by cases h⟩

theorem over : Rows.netBendsRow.holds Try.pinned (OpenSpec.ofChange Rows.netBendsSpec) :=
  OpenClaim.holds_of_wide 3 Try.f3 rfl rfl rfl rfl rfl rfl rfl ⟨rfl, rfl, rfl, rfl, rfl⟩ rfl rfl rfl rfl rfl (by kernel_rfl) Try.func3 (by kernel_rfl)
    (of_decide_eq_true (by kernel_rfl)) (by unfold Func.isWrapper; first | (rw [if_pos (by decide +kernel)]; kernel_rfl) | (rw [if_neg (by decide +kernel)]; exact ⟨rfl, rfl⟩))
    (fun os started H enc _ => lifted os started H enc)
theorem proved : Rows.NetBendsSaid := over
#print axioms proved
end Go.Proofs.Ytimpnbkincgbmaa.netBends

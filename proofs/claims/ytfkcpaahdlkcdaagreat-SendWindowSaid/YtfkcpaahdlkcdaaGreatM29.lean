import Derived.Test.YtfkcpaahdlkcdaaGreatM28
import Derived.OpenShut
import Derived.ShutString
import Derived.ChangeOld
import Derived.SizedLaws
import Derived.Deep.Matrix
import Derived.Deep.Grids
/-! Joined: Args. -/
set_option linter.unusedSimpArgs false
set_option linter.unusedVariables false
namespace Go.Proofs.YtfkcpaahdlkcdaaGreat
open Go.ChangeShapes Go.WideShapes Go.ChangeAt Go.RowKit
open Go.Deep (intRow boolRow open_int_rows open_bools)

/-- A list of lists of bytes, read. -/
def BssR (A : Option Addr) (ls : List (List Int)) (w : World) : Prop :=
  ∀ i (h : i < ls.length), ∃ ad A' c', A = some ad ∧ w.cell? (ad.add i) = some (.slice A' ls[i].length c') ∧ ls[i].length ≤ c' ∧ c' ≤ maxLen ∧ SliceR 1 (.slice A' ls[i].length c') ls[i].length (u8s ls[i]) w
theorem BssR.grow {A : Option Addr} {ls : List (List Int)} {w w' : World} (h : BssR A ls w) (hk : Grow w w') : BssR A ls w' := fun i hi => by
  obtain ⟨ad, A', c', h1, h2, h3, h4, h5⟩ := h i hi
  exact ⟨ad, A', c', h1, hk.cell h2 (fun h => h), h3, h4, h5.grow hk⟩
theorem SliceR.take {A : Option Addr} {n c m : Nat} {l : List Int} {w : World} (h : SliceR 1 (.slice A n c) n (u8s l) w) (hm : m ≤ n) : SliceR 1 (.slice A m c) m (u8s (l.take m)) w := by
  obtain ⟨A', c', e, h1, h2, h3, h4⟩ := h
  injection e with e1 e2 e3
  subst e1
  subst e3
  have hl : l.length = n := by simpa using h2
  refine ⟨A, c, rfl, by omega, by simp; omega, h3, fun j u hu => h4 j u ?_⟩
  rw [u8s, List.map_take, List.getElem?_take] at hu
  split at hu
  · exact hu
  · cases hu

/-- A list of lists of bytes, as the form reads it. -/
theorem bss_of_rows {a : Addr} {len cap : Nat} {A : Nat → Option Addr} {L C : Nat → Nat} {Z : Nat → List Int} {W : World} (hl : len ≤ cap)
    (h : ∀ r, r < cap → W.cell? (a.add r) = some (.slice (A r) (L r) (C r)) ∧ L r ≤ C r ∧ C r ≤ maxLen ∧ (Z r).length = C r ∧ (∀ n ∈ Z r, (Lit.int .u8 n).wf = true) ∧ (A r = none → C r = 0) ∧
        ∀ a', A r = some a' → 0 ≤ a'.block ∧ ∀ c, c < C r → W.cell? (a'.add c) = some (.int .u8 ((Z r).getD c 0))) :
    BssR (some a) ((List.range len).map fun r => (Z r).take (L r)) W := by
  intro i hi
  have hi' : i < len := by simpa using hi
  obtain ⟨h1, h2, h3, h4, _, h6, h7⟩ := h i (by omega)
  have hx : ((List.range len).map fun r => (Z r).take (L r))[i] = (Z i).take (L i) := by simp
  rw [hx]
  have hlen : ((Z i).take (L i)).length = L i := by rw [List.length_take]; omega
  rw [hlen]
  refine ⟨a, A i, C i, rfl, h1, h2, h3, A i, C i, rfl, h2, by simp; omega, h6, fun j u hu => ?_⟩
  have hj : j < L i := by
    rcases Nat.lt_or_ge j (L i) with h | h
    · exact h
    · rw [List.getElem?_eq_none (by simp; omega)] at hu; cases hu
  cases hA : A i with
  | none => have := h6 hA; omega
  | some a' =>
    refine ⟨a', rfl, ?_⟩
    rw [(h7 a' hA).2 j (by omega)]
    rw [u8s, List.getElem?_map, List.getElem?_take, if_pos hj] at hu
    rw [List.getD_eq_getElem?_getD]
    rw [List.getElem?_eq_getElem (by omega)] at hu ⊢
    simpa using hu
theorem bytes_of_ints {a : Addr} {len cap : Nat} {zs : List Int} {W : World} (hl : len ≤ cap) (hz : zs.length = cap) (h : ∀ i, i < zs.length → W.cell? (a.add i) = some (.int .u8 (zs.getD i 0))) :
    SliceR 1 (.slice (some a) (zs.take len).length cap) (zs.take len).length (u8s (zs.take len)) W := by
  have hlen : (zs.take len).length = len := by rw [List.length_take]; omega
  rw [hlen]
  refine ⟨some a, cap, rfl, hl, by simp; omega, (fun e => by cases e), fun j u hu => ⟨a, rfl, ?_⟩⟩
  have hj : j < len := by
    rcases Nat.lt_or_ge j len with h | h
    · exact h
    · rw [List.getElem?_eq_none (by simp; omega)] at hu; cases hu
  rw [h j (by omega)]
  rw [u8s, List.getElem?_map, List.getElem?_take, if_pos hj] at hu
  rw [List.getD_eq_getElem?_getD]
  rw [List.getElem?_eq_getElem (by omega)] at hu ⊢
  simpa using hu


theorem SliceR.cell {A : Option Addr} {n c : Nat} {vs : List Value} {w : World} (h : SliceR 1 (.slice A n c) n vs w) (i : Nat) (hi : i < vs.length) : ∃ ad, A = some ad ∧ w.cell? (ad.add i) = some vs[i] := by
  obtain ⟨A', c', e, h1, h2, h3, h4⟩ := h
  injection e with e1 e2 e3
  subst e1
  exact h4 i _ (List.getElem?_eq_getElem hi)
theorem weights_all {H : Type} {P : Program} {e : TypeId} : ∀ {ds : List (DataW H)} {d : DataW H}, d ∈ ds → ∀ n ∈ d.weights P e, n ∈ DataW.weightsAll P e ds
  | x :: r, d, hd, n, hn => by
    simp only [DataW.weightsAll, List.mem_append]
    rcases List.mem_cons.1 hd with h | h
    · subst h; exact .inl hn
    · exact .inr (weights_all h n hn)
  | [], d, hd, _, _ => by cases hd
/-- An argument: a list of lists of bytes. -/
theorem arg_bss {H : Type} {enc : TypeId × Value → H} {W : World} {held : Bool} {a : Option Addr} {len cap : Nat} {d : DataW H} {ps : List MemPlace} {ts : List TypeId} {ds : List (DataW H)} {j : Nat}
    (hsz : (DataW.weightsEach Tryz.prog ts ds).all (· ≤ reachBytes) = true) (ht : ts[j]? = some 129) (hd : ds[j]? = some d)
    (h : DataW.Trod enc Tryz.prog W 0 (fun _ => true) held 129 (.slice a len cap) d ps) :
    ∃ ls, BssR a ls W ∧ ls.length = len ∧ ls.length ≤ cap ∧ cap ≤ maxLen ∧ ∀ x ∈ ls, x.length ≤ 140737488351232 := by
  obtain ⟨fuel, hf⟩ := h
  rcases open_int_rows Tryz.underlying129 Tryz.underlying23 Tryz.underlying5 (by kernel_rfl) (by kernel_rfl) hf with ⟨hcs, _⟩ | ⟨a, len, cap, A, L, C, Z, hcs, _, hl, hm, hx, hrows⟩
  · simp [Value.cells] at hcs
    obtain ⟨rfl, rfl, rfl⟩ := hcs
    exact ⟨[], fun i hi => by simp at hi, rfl, Nat.le_refl _, Nat.zero_le _, fun x hx => by cases hx⟩
  · simp [Value.cells] at hcs
    obtain ⟨rfl, rfl, rfl⟩ := hcs
    refine ⟨_, bss_of_rows hl hrows, by simp, by simpa using hl, hm, fun x hxm => ?_⟩
    obtain ⟨r, hr, rfl⟩ := List.mem_map.1 hxm
    have hr' : r < len := by simpa using hr
    obtain ⟨_, h2, _, h4, _, h6, _⟩ := hrows r (by omega)
    obtain ⟨hx, _⟩ := Prod.mk.inj hx
    subst hx
    have hb : Tryz.prog.bytesOf 5 = 1 := by kernel_rfl
    cases hA : A r with
    | none => have := h6 hA; rw [List.length_take]; omega
    | some ad =>
      have hw := weights_all (P := Tryz.prog) (e := 23) (ds := (List.range len).map fun r => intRow (H := H) .u8 (A r) (L r) (Z r)) (d := intRow .u8 (A r) (L r) (Z r)) (List.mem_map.2 ⟨r, hr, rfl⟩)
      have h7 : ((Z r).take (L r)).length + ((Z r).drop (L r)).length ∈ (intRow (H := H) .u8 (A r) (L r) (Z r)).weights Tryz.prog 23 := by
        rw [hA]
        simp [intRow, DataW.weights, u_bytes, hb, lits]
      have h8 := List.all_eq_true.1 hsz _ (DataW.weights_mem_each ht hd (((Z r).take (L r)).length + ((Z r).drop (L r)).length) (by
        simp only [DataW.weights, Tryz.underlying129]
        exact List.mem_cons_of_mem _ (List.mem_append_left _ (hw _ h7))))
      have h9 : ((Z r).take (L r)).length + ((Z r).drop (L r)).length ≤ reachBytes := by simpa using h8
      have := reachBytes_lt
      have h10 : reachBytes = 140737488351232 := by decide
      omega
/-- An argument: a list of whole numbers. -/
theorem arg_ints {H : Type} {enc : TypeId × Value → H} {W : World} {held : Bool} {a : Option Addr} {len cap : Nat} {d : DataW H} {ps : List MemPlace} {ts : List TypeId} {ds : List (DataW H)} {j t e B : Nat} {k : IntKind}
    (hu : Tryz.prog.underlying t = some (.slice e)) (he : Tryz.prog.underlying e = some (.int k)) (hc1 : Tryz.prog.cellsOf e = 1) (hB : Tryz.prog.bytesOf e = B)
    (hsz : (DataW.weightsEach Tryz.prog ts ds).all (· ≤ reachBytes) = true) (ht : ts[j]? = some t) (hd : ds[j]? = some d)
    (h : DataW.Trod enc Tryz.prog W 0 (fun _ => true) held t (.slice a len cap) d ps) :
    ∃ l : List Int, SliceR 1 (.slice a l.length cap) l.length (l.map (Value.int k)) W ∧ l.length = len ∧ cap ≤ maxLen ∧ l.length * B ≤ 140737488351232 ∧ ∀ x ∈ l, (Lit.int k x).wf = true := by
  obtain ⟨fuel, hf⟩ := h
  rcases open_ints hu he hc1 hf with ⟨hcs, _⟩ | ⟨x, l, c, zs, hcs, _, hl, hm, hz, hx, hcell, hwz⟩
  · simp [Value.cells] at hcs
    obtain ⟨rfl, rfl, rfl⟩ := hcs
    exact ⟨[], ⟨none, 0, rfl, Nat.le_refl _, rfl, fun _ => rfl, fun j u hu => by simp at hu⟩, rfl, Nat.zero_le _, by simp, fun x hx => by cases hx⟩
  · simp [Value.cells] at hcs
    obtain ⟨rfl, rfl, rfl⟩ := hcs
    have hz' : zs.length = cap := by simpa using hz
    have hlen : (zs.take len).length = len := by rw [List.length_take]; omega
    obtain ⟨hx, _⟩ := Prod.mk.inj hx
    subst hx
    have z := sized_slice hsz ht hd hu
    rw [hB] at z
    have h1 : (lits (H := H) k (zs.take len)).length + (lits (H := H) k (zs.drop len)).length = zs.length := by
      simp [lits]
      omega
    rw [h1] at z
    have h10 : reachBytes = 140737488351232 := by decide
    refine ⟨zs.take len, ?_, hlen, hm, ?_, fun x hx => hwz x (List.mem_of_mem_take hx)⟩
    · rw [hlen]
      refine ⟨some x, cap, rfl, hl, by simp; omega, (fun e => by cases e), fun j u hu => ⟨x, rfl, ?_⟩⟩
      have hj : j < len := by
        rcases Nat.lt_or_ge j len with h | h
        · exact h
        · rw [List.getElem?_eq_none (by simp; omega)] at hu; cases hu
      rw [hcell j (by omega)]
      rw [List.getElem?_map, List.getElem?_take, if_pos hj] at hu
      rw [List.getD_eq_getElem?_getD]
      rw [List.getElem?_eq_getElem (by omega)] at hu ⊢
      simpa using hu
    · rw [hlen, ← h10]
      exact Nat.le_trans (Nat.mul_le_mul_right _ (by omega)) z
/-- An argument: a list of bools. -/
theorem arg_bools {H : Type} {enc : TypeId × Value → H} {W : World} {held : Bool} {a : Option Addr} {len cap : Nat} {d : DataW H} {ps : List MemPlace} {t e : Nat}
    (hu : Tryz.prog.underlying t = some (.slice e)) (he : Tryz.prog.underlying e = some .bool) (hc1 : Tryz.prog.cellsOf e = 1)
    (h : DataW.Trod enc Tryz.prog W 0 (fun _ => true) held t (.slice a len cap) d ps) :
    ∃ l : List Bool, SliceR 1 (.slice a l.length cap) l.length (l.map Value.bool) W ∧ l.length = len ∧ cap ≤ maxLen := by
  obtain ⟨fuel, hf⟩ := h
  rcases open_bools hu he hc1 hf with ⟨hcs, _⟩ | ⟨x, l, c, B, hcs, _, hl, hm, _, hcell⟩
  · simp [Value.cells] at hcs
    obtain ⟨rfl, rfl, rfl⟩ := hcs
    exact ⟨[], ⟨none, 0, rfl, Nat.le_refl _, rfl, fun _ => rfl, fun j u hu => by simp at hu⟩, rfl, Nat.zero_le _⟩
  · simp [Value.cells] at hcs
    obtain ⟨rfl, rfl, rfl⟩ := hcs
    refine ⟨(List.range len).map B, ?_, by simp, hm⟩
    have hlen : ((List.range len).map B).length = len := by simp
    rw [hlen]
    refine ⟨some x, cap, rfl, hl, by simp, (fun e => by cases e), fun j u hu => ⟨x, rfl, ?_⟩⟩
    have hj : j < len := by
      rcases Nat.lt_or_ge j len with h | h
      · exact h
      · rw [List.getElem?_eq_none (by simp; omega)] at hu; cases hu
    rw [hcell j (by omega)]
    simp [hj] at hu
    rw [← hu]
end Go.Proofs.YtfkcpaahdlkcdaaGreat

import Derived.Test.YtimpnbkincgbmaaTmW
/-! The document's timers (scullerref05): a list of pairs, never written behind its making. -/
set_option linter.unusedSimpArgs false
set_option linter.unusedVariables false
namespace Go.Proofs.Ytimpnbkincgbmaa
open Go.RowKit

theorem info_kt : (Try.prog.info? 106).map (fun i => (i.zero, i.size, i.bytes)) = some (some (.agg #[.int .i64 0, .int .i64 0]), 2, 16) := by kernel_rfl
theorem u_kts : Try.prog.underlying 64 = some (.slice 106) := by kernel_rfl
def ktV (l : List KT) : List Value := l.flatMap (fun x => [.int .i64 x.1, .int .i64 x.2])
theorem ktV_append (a b : List KT) : ktV (a ++ b) = ktV a ++ ktV b := by simp [ktV]
theorem ktV_length (l : List KT) : (ktV l).length = l.length * 2 := by
  induction l with
  | nil => rfl
  | cons x r ih => simp [ktV] at ih ⊢; omega
theorem ktV_one (l : List KT) : ∀ u ∈ ktV l, u.oneCell' = true := by
  intro u hu
  simp only [ktV, List.mem_flatMap] at hu
  obtain ⟨x, _, hx⟩ := hu
  simp at hx
  rcases hx with rfl | rfl <;> rfl
theorem ktV_get : ∀ (l : List KT) (i : Nat) (h : i < l.length), (ktV l)[i * 2]? = some (.int .i64 l[i].1) ∧ (ktV l)[i * 2 + 1]? = some (.int .i64 l[i].2)
  | [], i, h => by simp at h
  | x :: r, 0, h => by simp [ktV]
  | x :: r, i + 1, h => by
    have ih := ktV_get r i (by simpa using h)
    have e : ktV (x :: r) = [.int .i64 x.1, .int .i64 x.2] ++ ktV r := by simp [ktV]
    rw [e, List.getElem?_append_right (by simp; omega), List.getElem?_append_right (by simp; omega)]
    simpa [show (i + 1) * 2 - 2 = i * 2 from by omega, show (i + 1) * 2 + 1 - 2 = i * 2 + 1 from by omega] using ih

/-- A list of the document's: its row, owned. -/
def Kl (l : List KT) (v : Value) (w : World) : Prop := w.ownsRow 0 106 2 v l.length (ktV l)
theorem Kl.keep {l : List KT} {v : Value} {S : Nat → Prop} {w w' : World} (h : Kl l v w) (hk : Keep S w w') (hd : ∀ k, v.ownBlock = some k → ¬ S k) : Kl l v w' := own_keep h hk hd
theorem Kl.grow {l : List KT} {v : Value} {w w' : World} (h : Kl l v w) (hk : Grow w w') : Kl l v w' := own_keep h hk (fun _ _ h => h)
theorem Kl.slice {l : List KT} {v : Value} {w : World} (h : Kl l v w) : ∃ A c, v = .slice A l.length c := by
  obtain ⟨A, c, e, _⟩ := own_slice h
  exact ⟨A, c, e⟩
theorem Kl.get {l : List KT} {v : Value} {w : World} (h : Kl l v w) (i : Nat) (hi : i < l.length) : ∃ r c, v = .slice (some ⟨r, 0, none⟩) l.length c ∧ w.cell? ⟨r, i * 2, none⟩ = some (.int .i64 l[i].1) ∧ w.cell? ⟨r, i * 2 + 1, none⟩ = some (.int .i64 l[i].2) := by
  obtain ⟨r, c, hv, _, _, hcs⟩ := own_cells h (by omega)
  obtain ⟨g1, g2⟩ := ktV_get l i hi
  exact ⟨r, c, hv, by simpa using hcs _ _ g1, by simpa using hcs _ _ g2⟩
end Go.Proofs.Ytimpnbkincgbmaa

import Derived.Test.YtimpnbkincgbmaaTmY
set_option linter.unusedSimpArgs false
set_option linter.unusedVariables false
namespace Go.Proofs.Ytimpnbkincgbmaa
open Go.RowKit

theorem find_take_none {l : List KT} {key : Int} {k : Nat} (hk : k < l.length) (h : ∀ x ∈ l.take k, x.1 ≠ key) (hne : l[k].1 ≠ key) : ∀ x ∈ l.take (k + 1), x.1 ≠ key := by
  rw [List.take_succ_eq_append_getElem hk]
  intro x hx
  rcases List.mem_append.1 hx with e | e
  · exact h x e
  · rw [List.mem_singleton.1 e]; exact hne

set_option maxRecDepth 100000 in
theorem kat_calls (l : List KT) (v : Value) (w : World) (h : Kl l v w) (hl : l.length ≤ 1000) (hn : ND l) (key : Int) :
    Calls Try.prog 51 #[v, .int .i64 key] w fun e w' => e = .returned (.tuple #[.int .i64 (atL l key), .bool (hasL l key)]) ∧ w = w' := by
  obtain ⟨A, n, rfl⟩ := h.slice
  have H := Lib.hid h
  have HN := Lib.hid hn
  clear h hn
  go_enter Try.func51, Try.ntmps51
  go_wp2
  go_loopw [6] (fun v wr => wr = w ∧ ∃ k : Nat, k ≤ l.length ∧ v = .int .i64 k ∧ Hid (∀ x ∈ l.take k, x.1 ≠ key)) (fun v _ => l.length - (intOf v).toNat)
  case atStart => exact ⟨rfl, 0, by omega, rfl, fun x hx => by simp at hx⟩
  case round =>
    obtain ⟨rfl, k, hk, rfl, HT⟩ := hrel
    by_cases hlt : k < l.length
    · obtain ⟨r, c, hv, h2, h3⟩ := H.out.get k hlt
      injection hv with hv1 hv2 hv3
      subst hv1
      subst hv3
      have hw : IntKind.i64.wrap ((k : Int) + 1) = (k : Int) + 1 := IntWalk.i64_in _ (by omega)
      have hlt' : (k : Int) < l.length := by omega
      by_cases hkey : l[k].1 = key
      · have hm : (key, l[k].2) ∈ l := by rw [← hkey]; exact List.getElem_mem hlt
        have e1 : hasL l key = true := hasL_iff.2 ⟨_, hm⟩
        have e2 : atL l key = l[k].2 := atL_yes HN.out hm
        have hb : (l[k].1 == key) = true := by simp [hkey]
        have E := Lib.hid (And.intro e1 e2)
        clear hkey hm e1 e2
        go_wp2
        go_ret2
        rw [E.out.1, E.out.2]
        exact ⟨rfl, rfl⟩
      · have hb : (l[k].1 == key) = false := by simp [hkey]
        have HT2 := Lib.hid (find_take_none hlt HT.out hkey)
        clear hkey
        go_wp2
        go_roundw
        case rel => exact ⟨trivial, k + 1, by omega, by go_num, HT2⟩
        case measure => simp [intOf]; omega
    · obtain rfl : k = l.length := by omega
      have hlt' : ¬ ((l.length : Int) < l.length) := by omega
      have hno := HT.out
      rw [List.take_length] at hno
      have E := Lib.hid (And.intro (hasL_no hno) (atL_no hno))
      clear hno
      go_wp2
      go_ret2
      rw [E.out.1, E.out.2]
      exact ⟨rfl, rfl⟩
end Go.Proofs.Ytimpnbkincgbmaa

import Derived.Test.YtimpnbkincgbmaaProg
import Derived.Test.YtimpnbkincgbmaaMem
set_option linter.unusedVariables false
set_option linter.unusedSimpArgs false
namespace Go.Proofs.Ytimpnbkincgbmaa
open Go.RowKit

theorem info_u8 : (Try.prog.info? 5).map (fun i => (i.zero, i.size, i.bytes)) = some (some (.int .u8 0), 1, 1) := by kernel_rfl
theorem u_bytes : Try.prog.underlying 23 = some (.slice 5) := by kernel_rfl
abbrev u8s (l : List Int) : List Value := l.map (Value.int .u8)
theorem u8s_one (l : List Int) : ∀ u ∈ u8s l, u.oneCell' = true := by
  intro u hu
  obtain ⟨x, _, rfl⟩ := List.mem_map.1 hu
  rfl

theorem u_u8 : Try.prog.underlying 5 = some (.int .u8) := by kernel_rfl
theorem u_string : Try.prog.underlying 9 = some .string := by kernel_rfl
set_option maxRecDepth 100000 in
theorem conv_const (w : World) (C : Array Value) (n c : Nat) : (convert 23 23 (.slice (some ⟨w.heap.size, 0, none⟩) n c)).run Try.prog (w.alloc (.cells C 5)) = .ok (.slice (some ⟨w.heap.size, 0, none⟩) n c) (w.alloc (.cells C 5 (C.size, C.size + 1))) :=
  Lib.run_convert_bytes_const w 23 5 C n c u_bytes u_u8
set_option maxRecDepth 100000 in
/-- string(b). -/
theorem conv_str {A : Option Addr} {n c : Nat} {l : List Int} {w : World} (h : SliceR 1 (.slice A n c) n (u8s l) w) : (convert 23 9 (.slice A n c)).run Try.prog w = .ok (.string (strOfNums l)) w := by
  obtain ⟨A', c', e, hc, hl, hA, hcl⟩ := h
  injection e with e1 e2 e3
  subst e1
  subst e3
  have hl' : l.length = n := by simpa using hl
  cases A with
  | none =>
    have hc0 := hA rfl
    have hn : n = 0 := by omega
    have : l = [] := List.eq_nil_of_length_eq_zero (by omega)
    subst this
    rw [run_convert_bytes_nil w _ _ u_bytes u_u8 _ _ _ u_string]
    rfl
  | some ad =>
    have hld : (loadCells ad n).run Try.prog w = .ok (l.map (Value.int .u8)).toArray w := by
      have := run_loadCells_list (P := Try.prog) w ad (l.map (Value.int .u8)) (fun j v hj => by
        obtain ⟨ad', e, hq⟩ := hcl j v hj
        injection e with e
        subst e
        exact hq)
      simpa [hl'] using this
    rw [run_convert_bytes_string w _ _ _ _ n c u_bytes u_u8 u_string, run_bytesToString w ad n c l hld, foldl_push_bytes]
    simp [strOfNums, ByteArray.empty, ByteArray.emptyWithCapacity]
    rfl

set_option maxRecDepth 100000 in
theorem bclone_calls (v : Value) (l : List Int) (w : World) (h : SliceR 1 v l.length (u8s l) w) (hl : l.length ≤ 140737488355328) :
    Calls Try.prog 36 #[v] w fun e w' => ∃ A c, e = .returned (.slice A l.length c) ∧ w'.ownsRow w.heap.size 5 1 (.slice A l.length c) l.length (u8s l) ∧ Grow w w' := by
  have Hs := Lib.hid ((h.grow ((Keep.refl _ _).alloc (.cells #[] 5))).src u_bytes (u8s_one l))
  have HL := Lib.hid hl
  clear hl
  have hq := eql_nil u_bytes
  obtain ⟨A, c, rfl, hlc, _, hA, _⟩ := h
  cases A with
  | none =>
    have h0 : l = [] := List.eq_nil_of_length_eq_zero (by have := hA rfl; omega)
    subst h0
    go_enter Try.func36, Try.ntmps36
    go_wp2
    go_ret
    exact ⟨none, 0, rfl, World.ownsRow_nil _ _ _ _, Keep.refl _ _⟩
  | some ad =>
    go_enter Try.func36, Try.ntmps36
    go_wp2_with (at_builtin; refine wpList_app _ rfl _ _ 23 23 rfl w.heap.size 5 (.int .u8 0) 1 1 u_bytes info_u8 rfl (.slice (some ⟨w.heap.size, 0, none⟩) 0 0) 0 [] rfl (.slice (some ad) l.length c) l.length (u8s l) rfl ?_ ?c0 ?c1 ?c2 ?c3 ?c4; intro v' w' hap)
    case c0 => exact World.ownsRow_made w #[] 0 (Nat.le_refl _) (by simp [maxLen]) rfl
    case c1 => exact Hs.out
    case c2 => have := HL.out; simp only [maxLen]; omega
    case c3 => have := HL.out; omega
    case c4 => simp
    have ho := hap.own
    simp only [Nat.zero_add, List.nil_append] at ho
    have hg := ((Keep.refl NoB w).alloc (.cells #[] 5)).grown hap.grew (by simp [Value.ownBlock])
    clear hap
    obtain ⟨A, c2, rfl, _⟩ := own_slice ho
    go_wp2
    go_ret
    exact ⟨_, _, rfl, ho, hg⟩
end Go.Proofs.Ytimpnbkincgbmaa

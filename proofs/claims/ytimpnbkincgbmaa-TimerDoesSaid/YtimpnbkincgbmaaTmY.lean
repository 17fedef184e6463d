import Derived.Test.YtimpnbkincgbmaaTmX
set_option linter.unusedSimpArgs false
set_option linter.unusedVariables false
namespace Go.Proofs.Ytimpnbkincgbmaa
open Go.RowKit

theorem delL_take_succ {l : List KT} {key : Int} {k : Nat} (hk : k < l.length) : delL (l.take (k + 1)) key = if l[k].1 = key then delL (l.take k) key else delL (l.take k) key ++ [l[k]] := by
  rw [List.take_succ_eq_append_getElem hk]
  unfold delL
  rw [List.filter_append]
  split
  · rename_i h; simp [h]
  · rename_i h; simp [h]
theorem delL_le (l : List KT) (key : Int) : (delL l key).length ≤ l.length := List.length_filter_le _ _

set_option maxRecDepth 100000 in
theorem kdrop_calls (l : List KT) (v : Value) (w : World) (h : Kl l v w) (hl : l.length ≤ 1000) (key : Int) :
    Calls Try.prog 47 #[v, .int .i64 key] w fun e w' => ∃ A c, e = .returned (.tuple #[.slice A (delL l key).length c, .bool (decide ((delL l key).length < l.length))]) ∧ w'.ownsRow w.heap.size 106 2 (.slice A (delL l key).length c) (delL l key).length (ktV (delL l key)) ∧ Grow w w' := by
  obtain ⟨A, n, rfl⟩ := h.slice
  have H := Lib.hid h
  clear h
  go_enter Try.func47, Try.ntmps47
  go_wp2
  go_loopw [6, 7] (fun vo v wr => ∃ k : Nat, k ≤ l.length ∧ v = .int .i64 k ∧ ∃ A4 c4, vo = .slice A4 (delL (l.take k) key).length c4 ∧ Hid (Grow w wr ∧ wr.ownsRow w.heap.size 106 2 (.slice A4 (delL (l.take k) key).length c4) (delL (l.take k) key).length (ktV (delL (l.take k) key)))) (fun _ v _ => l.length - (intOf v).toNat)
  case atStart => exact ⟨0, by omega, rfl, none, 0, by simp [delL], Keep.refl _ _, by simpa [delL, ktV] using World.ownsRow_nil w w.heap.size 106 2⟩
  case round =>
    obtain ⟨k, hk, rfl, A4, c4, rfl, HS⟩ := hrel
    by_cases hlt : k < l.length
    · obtain ⟨r, c, hv, h2, h3⟩ := (H.out.grow HS.out.1).get k hlt
      injection hv with hv1 hv2 hv3
      subst hv1
      subst hv3
      have hw : IntKind.i64.wrap ((k : Int) + 1) = (k : Int) + 1 := IntWalk.i64_in _ (by omega)
      have hlt' : (k : Int) < l.length := by omega
      have hsucc := delL_take_succ (key := key) hlt
      have hle := delL_le (l.take k) key
      rw [List.length_take] at hle
      by_cases hkey : l[k].1 = key
      · have hb : (l[k].1 != key) = false := by simp [hkey]
        rw [if_pos hkey] at hsucc
        rw [← hsucc] at HS ⊢
        clear hkey hle hsucc
        go_wp2
        go_roundw
        case rel => exact ⟨k + 1, by omega, by go_num, A4, c4, rfl, HS⟩
        case measure => simp [intOf]; omega
      · have hb : (l[k].1 != key) = true := by simp [hkey]
        rw [if_neg hkey] at hsucc
        have e1 := Lib.hid (congrArg List.length hsucc)
        have e2 := Lib.hid (congrArg ktV hsucc)
        clear hkey hsucc
        generalize delL (l.take k) key = X at *
        go_wp2_with (at_builtin; refine wpList_app _ rfl _ _ 64 64 rfl w.heap.size 106 (.agg #[.int .i64 0, .int .i64 0]) 2 16 u_kts info_kt rfl (.slice A4 X.length c4) X.length (ktV X) rfl (.slice (some ⟨wr.heap.size, 0, none⟩) 1 1) 1 [.int .i64 l[k].1, .int .i64 l[k].2] rfl ?_ (by exact own_keep HS.out.2 ((Keep.refl NoB wr).alloc _) (fun _ _ h => h)) (by exact Src.ofSlice _ u_kts ⟨wr.heap.size, 0, none⟩ 1 1 _ rfl (World.news_of_block (cs := #[.int .i64 l[k].1, .int .i64 l[k].2]) (t := 106) (fr := (0, 0)) (heap_alloc_new wr _)) (by simp [Value.oneCell'])) (by simp only [maxLen]; omega) (by omega) (by have := HS.out.1.size; simp; omega); intro v2 w2 hap; refine Hid.out ?_)
        refine Lib.hid ?_
        have Hg2 : Hid (Grow w w2) := ((((HS.out.1.mono (T := fun k => w.heap.size ≤ k) (fun _ h => h.elim)).alloc _).grown hap.grew (fun k hk => .inl (HS.out.2.lt k hk).1))).new (fun _ h => h)
        have Ho2 := Lib.hid hap.own
        obtain ⟨A6, c6, rfl, _⟩ := own_slice hap.own
        clear hap
        have e3 : (delL (l.take (k + 1)) key).length = X.length + 1 := by have := e1.out; simpa using this
        have e4 : ktV (delL (l.take (k + 1)) key) = ktV X ++ [.int .i64 l[k].1, .int .i64 l[k].2] := by have := e2.out; rw [this, ktV_append]; rfl
        rw [← e4, ← e3] at Ho2
        rw [← e3]
        clear e3 e4
        go_wp2
        go_roundw
        case rel => exact ⟨k + 1, by omega, by go_num, A6, c6, rfl, Hg2.out, Ho2.out⟩
        case measure => simp [intOf]; omega
    · obtain rfl : k = l.length := by omega
      have hlt' : ¬ ((l.length : Int) < l.length) := by omega
      rw [List.take_length] at HS ⊢
      go_wp2
      go_ret2
      exact ⟨A4, c4, by simp, HS.out.2, HS.out.1⟩
end Go.Proofs.Ytimpnbkincgbmaa

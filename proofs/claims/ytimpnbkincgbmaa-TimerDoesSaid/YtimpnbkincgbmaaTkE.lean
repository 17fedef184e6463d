import Derived.Test.YtimpnbkincgbmaaTkD
import Derived.Test.YtimpnbkincgbmaaTmS
set_option linter.unusedSimpArgs false
set_option linter.unusedVariables false
namespace Go.Proofs.Ytimpnbkincgbmaa
open Go.RowKit

/-- The queue and the document's list, of one list. -/
structure KSt (W : World) (q : Nat) (l : List KT) (F : Nat → Prop) (v : Value) (w : World) : Prop where
  tst : TSt W q l F w
  ref : Kl l v w
  apart : ∀ k, v.ownBlock = some k → ¬ F k
theorem KSt.grow {W : World} {q : Nat} {l : List KT} {F : Nat → Prop} {v : Value} {w w' : World} (h : KSt W q l F v w) (hg : Grow w w') : KSt W q l F v w' := ⟨h.tst.grow' hg, h.ref.grow hg, h.apart⟩
theorem KSt.far {W : World} {q : Nat} {l : List KT} {F : Nat → Prop} {v v2 : Value} {w : World} (h : KSt W q l F v w) (hv : ∀ k, v2.ownBlock = some k → v.ownBlock = some k ∨ w.heap.size ≤ k) : ∀ k, v2.ownBlock = some k → ¬ F k := fun k hk hF => by
  rcases hv k hk with e | e
  · exact h.apart k e hF
  · have := h.tst.lt k hF; omega
theorem KSt.both {W : World} {q : Nat} {l l2 : List KT} {F F3 : Nat → Prop} {v v2 : Value} {w w2 w3 : World} (h : KSt W q l F v w) (hr : Kl l2 v2 w2) (hv : ∀ k, v2.ownBlock = some k → v.ownBlock = some k ∨ w.heap.size ≤ k)
    (ht : TSt W q l2 F3 w3) (hk : Keep F w2 w3) (hF : ∀ k, F3 k → F k ∨ w2.heap.size ≤ k) : KSt W q l2 F3 v2 w3 :=
  ⟨ht, hr.keep hk (h.far hv), fun k hk2 hF3 => by
    rcases hF k hF3 with e | e
    · exact h.far hv k hk2 e
    · have := (World.ownsRow.lt hr k hk2).2; omega⟩
theorem KSt.few {W : World} {q : Nat} {l : List KT} {F : Nat → Prop} {v : Value} {w : World} (h : KSt W q l F v w) : l.length ≤ 1000 := h.tst.que.few
theorem KSt.nd {W : World} {q : Nat} {l : List KT} {F : Nat → Prop} {v : Value} {w : World} (h : KSt W q l F v w) : ND l := h.tst.que.nd
theorem okI_tmod {k : Int} (h : okI k) : okI (k.tmod 12) := by
  have h2 : -9223372036854775808 ≤ k ∧ k ≤ 9223372036854775807 := by simpa [okI, Lit.wf, show IntKind.i64.min = -9223372036854775808 from rfl, show IntKind.i64.max = 9223372036854775807 from rfl] using h
  have h3 := Int.tmod_lt_of_pos k (show (0 : Int) < 12 by decide)
  have h4 : -12 < k.tmod 12 := by
    have h6 := Int.neg_tmod k 12
    have h5 := Int.tmod_lt_of_pos (-k) (show (0 : Int) < 12 by decide)
    omega
  exact okI_of (by omega) (by omega)
theorem has_del (l : List KT) (hn : ND l) (key : Int) : decide ((delL l key).length < l.length) = hasL l key := by
  cases hh : hasL l key with
  | true =>
    obtain ⟨t, ht⟩ := hasL_iff.1 hh
    have := delL_length hn ht
    have h2 : (delL l key).length < l.length := by omega
    simp [h2]
  | false =>
    have : delL l key = l := delL_absent (fun x hx e => by
      have : hasL l key = true := hasL_iff.2 ⟨x.2, by rw [← e]; exact hx⟩
      rw [hh] at this
      cases this)
    rw [this]
    simp

set_option maxRecDepth 100000 in
set_option maxHeartbeats 2000000 in
theorem kdeed0 (W : World) (q : Nat) (l : List KT) (F : Nat → Prop) (v : Value) (w : World) (hS : KSt W q l F v w) (k key at_ : Int) (hk0 : 0 ≤ k) (hk1 : k ≤ 255) (hq : k % 4 = 0) (hkey : okI key) :
    Calls Try.prog 33 #[.pointer (some ⟨q, 0, none⟩), v, .agg #[.int .u8 k, .int .i64 key, .int .i64 at_]] w fun e w' => ∃ v', e = .returned (.tuple #[v', .bool true]) ∧ ∃ l' F', KSt W q l' F' v' w' := by
  have hw1 : Grow w (w.alloc (.cells #[.int .u8 k, .int .i64 key, .int .i64 at_] 68)) := (Keep.refl _ _).alloc _
  obtain ⟨A1, c1, rfl⟩ := hS.ref.slice
  have HS := Lib.hid (hS.grow hw1)
  have hd := heap_alloc_new w (.cells #[.int .u8 k, .int .i64 key, .int .i64 at_] 68)
  have hc0 : (w.alloc (.cells #[.int .u8 k, .int .i64 key, .int .i64 at_] 68)).cell? ⟨w.heap.size, 0, none⟩ = some (.int .u8 k) := World.news_of_block hd 0 _ rfl
  have hc1 : (w.alloc (.cells #[.int .u8 k, .int .i64 key, .int .i64 at_] 68)).cell? ⟨w.heap.size, 1, none⟩ = some (.int .i64 key) := World.news_of_block hd 1 _ rfl
  have hc2 : (w.alloc (.cells #[.int .u8 k, .int .i64 key, .int .i64 at_] 68)).cell? ⟨w.heap.size, 2, none⟩ = some (.int .i64 at_) := World.news_of_block hd 2 _ rfl
  clear hS hd hw1
  have Hok := Lib.hid (And.intro hkey (okI_tmod hkey))
  clear hkey
  have q8 : 0 ≤ k % 8 ∧ k % 8 < 8 := by omega
  have q0 : (k % 4 == 0) = true := beq_iff_eq.2 hq
  by_cases h8 : 1 < k % 8
  all_goals
    go_enter Try.func33, Try.ntmps33
    go_wp2_with fail
    refine (kdrop_calls l _ _ HS.out.ref HS.out.few _).mono ?_
    rintro e w2 ⟨A2, c2, rfl, hR, hg⟩
    have HS2 := Lib.hid (HS.out.grow hg)
    have HR := Lib.hid (And.intro hR hg.size)
    clear hR hg
    go_wp2_with fail
    refine (tst_drop HS2.out.tst _ (by first | exact Hok.out.1 | exact Hok.out.2)).mono ?_
    rintro e w3 ⟨rfl, h3, hk3⟩
    have HT := Lib.hid (And.intro h3 hk3)
    clear h3 hk3
    rw [has_del l HS.out.nd]
    go_wp2
    go_ret2
    refine ⟨_, by simp, _, F, HS.out.both (own_base0 HR.out.1) (fun k hk => .inr (HR.out.1.lt k hk).1) HT.out.1 HT.out.2 (fun k hk => .inl hk)⟩

set_option maxRecDepth 100000 in
set_option maxHeartbeats 2000000 in
theorem kdeed1 (W : World) (q : Nat) (l : List KT) (F : Nat → Prop) (v : Value) (w : World) (hS : KSt W q l F v w) (k key at_ : Int) (hk0 : 0 ≤ k) (hk1 : k ≤ 255) (hq : k % 4 = 1) (hkey : okI key) :
    Calls Try.prog 33 #[.pointer (some ⟨q, 0, none⟩), v, .agg #[.int .u8 k, .int .i64 key, .int .i64 at_]] w fun e w' => ∃ v', e = .returned (.tuple #[v', .bool true]) ∧ ∃ l' F', KSt W q l' F' v' w' := by
  have hw1 : Grow w (w.alloc (.cells #[.int .u8 k, .int .i64 key, .int .i64 at_] 68)) := (Keep.refl _ _).alloc _
  obtain ⟨A1, c1, rfl⟩ := hS.ref.slice
  have HS := Lib.hid (hS.grow hw1)
  have hd := heap_alloc_new w (.cells #[.int .u8 k, .int .i64 key, .int .i64 at_] 68)
  have hc0 : (w.alloc (.cells #[.int .u8 k, .int .i64 key, .int .i64 at_] 68)).cell? ⟨w.heap.size, 0, none⟩ = some (.int .u8 k) := World.news_of_block hd 0 _ rfl
  have hc1 : (w.alloc (.cells #[.int .u8 k, .int .i64 key, .int .i64 at_] 68)).cell? ⟨w.heap.size, 1, none⟩ = some (.int .i64 key) := World.news_of_block hd 1 _ rfl
  have hc2 : (w.alloc (.cells #[.int .u8 k, .int .i64 key, .int .i64 at_] 68)).cell? ⟨w.heap.size, 2, none⟩ = some (.int .i64 at_) := World.news_of_block hd 2 _ rfl
  clear hS hd hw1
  have q8 : 0 ≤ k % 8 ∧ k % 8 < 8 := by omega
  have q0 : (k % 4 == 0) = false := beq_eq_false_iff_ne.2 (by omega)
  have q1 : (k % 4 == 1) = true := beq_iff_eq.2 hq
  by_cases h8 : 1 < k % 8
  all_goals
    go_enter Try.func33, Try.ntmps33
    go_wp2_with fail
    refine (kdue_calls l _ _ HS.out.ref HS.out.few HS.out.nd at_).mono ?_
    rintro e w2 ⟨v2, ds, A3, c3, rfl, hd, hR, hg, ho, hv⟩
    obtain ⟨A2, c2, rfl⟩ := hR.slice
    have HS2 := Lib.hid (HS.out.grow hg)
    have hc2' := hg.cell hc2 (fun h => h)
    have HR := Lib.hid (And.intro hR hv)
    have Ho := Lib.hid (And.intro ho (And.intro hd hg.size))
    clear hR hg hv ho hd
    go_wp2_with fail
    refine (tst_due HS2.out.tst at_).mono ?_
    rintro e w3 ⟨ds2, A4, c4, rfl, hd2, h3, hk3, ho2⟩
    obtain rfl : ds2 = ds := hd2.unique Ho.out.2.1
    have HT := Lib.hid (And.intro h3 hk3)
    have s1 : SliceR 1 (.slice A4 ds2.length c4) ds2.length (keysV ds2) w3 := SliceR.of_own ho2
    have s2 : SliceR 1 (.slice A3 ds2.length c3) ds2.length (keysV ds2) w3 := SliceR.of_own (own_keep Ho.out.1 hk3 (fun k hk hF => by
      have h1 := (Ho.out.1.lt k hk).1
      have h2 := HS.out.tst.lt k hF
      omega))
    have Hs := Lib.hid (And.intro s1 s2)
    have hlen2 : ds2.length ≤ 1000 := by have := hd2.len; have := HS.out.few; omega
    clear h3 hk3 ho2 hd2 s1 s2
    go_wp2_with fail
    refine (same_calls A4 A3 c4 c3 ds2 w3 Hs.out.1 Hs.out.2 hlen2).mono ?_
    rintro e w4 ⟨rfl, hg4⟩
    have Hg4 := Lib.hid hg4
    clear hg4
    go_wp2
    go_ret2
    exact ⟨_, rfl, _, F, (HS.out.both HR.out.1 HR.out.2 HT.out.1 HT.out.2 (fun k hk => .inl hk)).grow Hg4.out⟩

set_option maxRecDepth 100000 in
set_option maxHeartbeats 2000000 in
theorem kdeed2 (W : World) (q : Nat) (l : List KT) (F : Nat → Prop) (v : Value) (w : World) (hS : KSt W q l F v w) (k key at_ : Int) (hk0 : 0 ≤ k) (hk1 : k ≤ 255) (hq : 1 < k % 4) (hkey : okI key) :
    Calls Try.prog 33 #[.pointer (some ⟨q, 0, none⟩), v, .agg #[.int .u8 k, .int .i64 key, .int .i64 at_]] w fun e w' => ∃ v', e = .returned (.tuple #[v', .bool true]) ∧ ∃ l' F', KSt W q l' F' v' w' := by
  have hw1 : Grow w (w.alloc (.cells #[.int .u8 k, .int .i64 key, .int .i64 at_] 68)) := (Keep.refl _ _).alloc _
  obtain ⟨A1, c1, rfl⟩ := hS.ref.slice
  have HS := Lib.hid (hS.grow hw1)
  have hd := heap_alloc_new w (.cells #[.int .u8 k, .int .i64 key, .int .i64 at_] 68)
  have hc0 : (w.alloc (.cells #[.int .u8 k, .int .i64 key, .int .i64 at_] 68)).cell? ⟨w.heap.size, 0, none⟩ = some (.int .u8 k) := World.news_of_block hd 0 _ rfl
  have hc1 : (w.alloc (.cells #[.int .u8 k, .int .i64 key, .int .i64 at_] 68)).cell? ⟨w.heap.size, 1, none⟩ = some (.int .i64 key) := World.news_of_block hd 1 _ rfl
  have hc2 : (w.alloc (.cells #[.int .u8 k, .int .i64 key, .int .i64 at_] 68)).cell? ⟨w.heap.size, 2, none⟩ = some (.int .i64 at_) := World.news_of_block hd 2 _ rfl
  clear hS hd hw1
  have Hok := Lib.hid (And.intro hkey (okI_tmod hkey))
  clear hkey
  have q8 : 0 ≤ k % 8 ∧ k % 8 < 8 := by omega
  have q0 : (k % 4 == 0) = false := beq_eq_false_iff_ne.2 (by omega)
  have q1 : (k % 4 == 1) = false := beq_eq_false_iff_ne.2 (by omega)
  have h8 : 1 < k % 8 := by omega
  go_enter Try.func33, Try.ntmps33
  go_wp2_with fail
  refine (kset_calls l _ _ HS.out.ref HS.out.few HS.out.nd _ at_).mono ?_
  rintro e w2 ⟨v2, rfl, hR, hg, hv⟩
  obtain ⟨A2, c2, rfl⟩ := hR.slice
  have HS2 := Lib.hid (HS.out.grow hg)
  have hc2' := hg.cell hc2 (fun h => h)
  have HR := Lib.hid (And.intro hR hv)
  clear hR hg hv
  go_wp2_with fail
  refine (tst_set HS2.out.tst _ Hok.out.2 at_).mono ?_
  rintro e w3 ⟨rfl, F2, h3, hk3, hF3⟩
  have HT := Lib.hid (And.intro h3 (And.intro hk3 hF3))
  clear h3 hk3 hF3
  go_wp2
  go_ret2
  exact ⟨_, by simp, _, F2, HS.out.both HR.out.1 HR.out.2 HT.out.1 HT.out.2.1 HT.out.2.2⟩

theorem kdeed_calls (W : World) (q : Nat) (l : List KT) (F : Nat → Prop) (v : Value) (w : World) (hS : KSt W q l F v w) (k key at_ : Int) (hk0 : 0 ≤ k) (hk1 : k ≤ 255) (hkey : okI key) :
    Calls Try.prog 33 #[.pointer (some ⟨q, 0, none⟩), v, .agg #[.int .u8 k, .int .i64 key, .int .i64 at_]] w fun e w' => ∃ v', e = .returned (.tuple #[v', .bool true]) ∧ ∃ l' F', KSt W q l' F' v' w' := by
  by_cases h0 : k % 4 = 0
  · exact kdeed0 W q l F v w hS k key at_ hk0 hk1 h0 hkey
  by_cases h1 : k % 4 = 1
  · exact kdeed1 W q l F v w hS k key at_ hk0 hk1 h1 hkey
  · exact kdeed2 W q l F v w hS k key at_ hk0 hk1 (by omega) hkey
end Go.Proofs.Ytimpnbkincgbmaa

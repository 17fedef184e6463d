import Derived.Test.YtimpnbkincgbmaaTmS
set_option linter.unusedSimpArgs false
set_option linter.unusedVariables false
namespace Go.Proofs.Ytimpnbkincgbmaa
open Go.RowKit

structure T2 (W : World) (q p : Nat) (l1 l2 : List KT) (F G : Nat → Prop) (w : World) : Prop where
  a : TSt W q l1 F w
  b : TSt W p l2 G w
  dis : ∀ k, F k → ¬ G k
theorem T2.grow' {W : World} {q p : Nat} {l1 l2 : List KT} {F G : Nat → Prop} {w w' : World} (h : T2 W q p l1 l2 F G w) (hk : Grow w w') : T2 W q p l1 l2 F G w' := ⟨h.a.grow' hk, h.b.grow' hk, h.dis⟩
theorem T2.left {W : World} {q p : Nat} {l1 l2 l1' : List KT} {F G F2 : Nat → Prop} {w w' : World} (h : T2 W q p l1 l2 F G w) (h1 : TSt W q l1' F2 w') (hk : Keep F w w') (hF : ∀ k, F2 k → F k ∨ w.heap.size ≤ k) : T2 W q p l1' l2 F2 G w' :=
  ⟨h1, h.b.keep hk (fun k hG hF => h.dis k hF hG) h.a.ge, fun k h2 hG => (hF k h2).elim (fun h3 => h.dis k h3 hG) (fun h3 => by have := h.b.lt k hG; omega)⟩
theorem T2.right {W : World} {q p : Nat} {l1 l2 l2' : List KT} {F G G2 : Nat → Prop} {w w' : World} (h : T2 W q p l1 l2 F G w) (h1 : TSt W p l2' G2 w') (hk : Keep G w w') (hG : ∀ k, G2 k → G k ∨ w.heap.size ≤ k) : T2 W q p l1 l2' F G2 w' :=
  ⟨h.a.keep hk (fun k hF hG => h.dis k hF hG) h.b.ge, h1, fun k hF h2 => (hG k h2).elim (fun h3 => h.dis k hF h3) (fun h3 => by have := h.a.lt k hF; omega)⟩

/-- The bytes as times. -/
def tm (l : List Int) (i : Nat) : Int := l.getD i 0
theorem tm_ok {l : List Int} (h : ∀ x ∈ l, (Lit.int .u8 x).wf = true) (i : Nat) : 0 ≤ tm l i ∧ tm l i ≤ 255 := by
  unfold tm
  rw [List.getD_eq_getElem?_getD]
  by_cases hi : i < l.length
  · rw [List.getElem?_eq_getElem hi]
    have := h l[i] (List.getElem_mem hi)
    simpa [Lit.wf, show IntKind.u8.min = 0 from rfl, show IntKind.u8.max = 255 from rfl] using this
  · rw [List.getElem?_eq_none (by omega)]
    simp

set_option maxRecDepth 100000 in
set_option maxHeartbeats 2000000 in
theorem parts_calls (A : Option Addr) (cap : Nat) (l : List Int) (a b : Int) (W : World) (hl : SliceR 1 (.slice A l.length cap) l.length (u8s l) W) (hwf : ∀ x ∈ l, (Lit.int .u8 x).wf = true) (ha : 0 ≤ a ∧ a ≤ 255) (hb : 0 ≤ b ∧ b ≤ 255) :
    Calls Try.prog 8 #[.slice A l.length cap, .int .u8 a, .int .u8 b] W fun e w' => e = .returned (.bool true) ∧ Grow W w' := by
  have HL := Lib.hid hl
  have HW := Lib.hid hwf
  clear hl hwf
  by_cases hbig : 100 < (l.length : Int)
  · go_enter Try.func8, Try.ntmps8
    go_wp2_with fail
    refine (tknown_calls (Keep.refl NoB W)).mono ?_
    rintro e w1 ⟨rfl, h1⟩
    go_wp2
    go_ret
    exact ⟨rfl, h1⟩
  · go_enter Try.func8, Try.ntmps8
    go_wp2_with fail
    refine (tst_new (Keep.refl NoB W)).mono ?_
    rintro e w1 ⟨q, F, rfl, h1, -, -⟩
    have H1 := Lib.hid h1
    clear h1
    go_wp2_with fail
    refine (tst_new H1.out.grow).mono ?_
    rintro e w2 ⟨p, G, rfl, h2, hg, hG⟩
    have HS : Hid (T2 W q p (sl (tm l) 0) (sl (tm l) 0) F G w2) := ⟨H1.out.grow' hg, h2, fun k hF hG2 => by have := hG k hG2; have := H1.out.lt k hF; omega⟩
    clear h2 hg hG H1
    go_wp2
    go_loopw [9] (fun v wr => ∃ i : Nat, i ≤ l.length ∧ v = .int .i64 i ∧ ∃ F G, Hid (T2 W q p (sl (tm l) i) (sl (tm l) i) F G wr)) (fun v _ => l.length - (intOf v).toNat)
    case atStart => exact ⟨0, by omega, rfl, F, G, HS⟩
    case round =>
      clear HS F G
      obtain ⟨i, hi, rfl, F, G, HS⟩ := hrel
      by_cases hlt : i < l.length
      · have hlt' : (i : Int) < l.length := by omega
        have hw : IntKind.i64.wrap ((i : Int) + 1) = (i : Int) + 1 := IntWalk.i64_in _ (by omega)
        have hok := okI_of (k := (i : Int)) (by omega) (by omega)
        obtain ⟨a1, rfl, q1⟩ := SliceR.at_ (HL.out.grow HS.out.a.grow) i (by simpa using hlt)
        have e1 : (u8s l)[i]'(by simpa using hlt) = .int .u8 (tm l i) := by simp [tm, hlt]
        rw [e1] at q1
        obtain ⟨t0, t1⟩ := tm_ok HW.out i
        go_wp2_with fail
        refine (tst_set HS.out.a i hok (tm l i)).mono ?_
        rintro e w3 ⟨rfl, F2, h3, hK3, hF3⟩
        rw [rSet_sl (tm l) i (by omega)] at h3
        have HS3 := Lib.hid (HS.out.left h3 hK3 hF3)
        clear h3 hK3 hF3 HS
        obtain ⟨a2, ha2, q2⟩ := SliceR.at_ (HL.out.grow HS3.out.a.grow) i (by simpa using hlt)
        injection ha2 with ha2
        subst ha2
        rw [e1] at q2
        clear e1 q1
        go_wp2_with fail
        refine (tst_set HS3.out.b i hok (tm l i)).mono ?_
        rintro e w4 ⟨rfl, G2, h4, hK4, hG4⟩
        rw [rSet_sl (tm l) i (by omega)] at h4
        have HS4 := Lib.hid (HS3.out.right h4 hK4 hG4)
        clear h4 hK4 hG4 HS3
        go_wp2
        go_roundw
        case rel => exact ⟨i + 1, by omega, by go_num, F2, G2, HS4⟩
        case measure => simp [intOf]; omega
      · obtain rfl : i = l.length := by omega
        clear hlt
        rcases Int.lt_trichotomy a b with hab | hab | hab
        · have g1 : a ≤ b := by omega
          have g2 : ¬ (b ≤ a) := by omega
          have hle : a ≤ b := by omega
          have hlen := sl_length (tm l) l.length
          go_wp2_with fail
          refine (tst_due HS.out.a a).mono ?_
          rintro e w3 ⟨d1, A1, c1, rfl, hd1, h3, hK3, ho1⟩
          have HS3 := Lib.hid (HS.out.left h3 hK3 (fun k h => .inl h))
          have hn1 : d1.length ≤ 100 := by have := hd1.len; omega
          have Ho1 := Lib.hid ho1
          have Hd1 := Lib.hid hd1
          clear h3 hK3 ho1 hd1
          go_wp2_with fail
          refine (tst_due HS3.out.a b).mono ?_
          rintro e w4 ⟨d2, A2, c2, rfl, hd2, h4, hK4, ho2⟩
          have HS4 := Lib.hid (HS3.out.left h4 hK4 (fun k h => .inl h))
          have hn2 : d2.length ≤ 100 := by have := hd2.len; have := Hd1.out.len; omega
          have Hs1 := Lib.hid ((SliceR.of_own (own_keep Ho1.out hK4 (fun k hk hF => by have := (Ho1.out.lt k hk).1; have := HS.out.a.lt k hF; omega))).src u_ints (keysV_one d1))
          have Hd12 := Lib.hid (Hd1.out.parts (sl_nd (tm l) l.length) hle hd2)
          have Ho2 := Lib.hid ho2
          clear h4 hK4 ho2 hd2
          go_wp2_with (at_builtin; refine wpList_app _ rfl _ _ 54 54 rfl w4.heap.size 3 (.int .i64 0) 1 8 u_ints info_int rfl (.slice none 0 0) 0 [] rfl (.slice A1 d1.length c1) d1.length (keysV d1) rfl ?_ (by exact World.ownsRow_nil _ _ _ _) (by exact Hs1.out) (by simp only [maxLen]; omega) (by omega) (by exact Nat.le_refl _); intro v5 w5 hap; refine Hid.out ?_)
          refine Lib.hid ?_
          have ho5 := hap.own
          simp only [Nat.zero_add, List.nil_append] at ho5
          have hg5 : Grow w4 w5 := (Keep.refl NoB w4).grown hap.grew (by simp [Value.ownBlock])
          obtain ⟨A5, c5, rfl, _⟩ := own_slice ho5
          have Ho5 := Lib.hid ho5
          have Hg5 := Lib.hid hg5
          have Hs2 := Lib.hid ((SliceR.of_own (own_keep Ho2.out hg5 (fun _ _ h => h))).src u_ints (keysV_one d2))
          have hsz5 := hg5.size
          clear hap ho5 hg5
          go_wp2_with (at_builtin; refine wpList_app _ rfl _ _ 54 54 rfl w4.heap.size 3 (.int .i64 0) 1 8 u_ints info_int rfl (.slice A5 d1.length c5) d1.length (keysV d1) rfl (.slice A2 d2.length c2) d2.length (keysV d2) rfl ?_ (by exact Ho5.out) (by exact Hs2.out) (by simp only [maxLen]; omega) (by omega) (by omega); intro v6 w6 hap; refine Hid.out ?_)
          refine Lib.hid ?_
          have ho6 := hap.own
          have hg6 : Grow w4 w6 := ((Hg5.out.mono (T := fun k => w4.heap.size ≤ k) (fun _ h => h.elim)).grown hap.grew (fun k hk => .inl (Ho5.out.lt k hk).1)).new (fun _ h => h)
          have e1 : d1.length + d2.length = (d1 ++ d2).length := by simp
          have e2 : keysV d1 ++ keysV d2 = keysV (d1 ++ d2) := by simp [keysV]
          rw [e1, e2] at ho6
          obtain ⟨A6, c6, rfl, _⟩ := own_slice ho6
          have Ho6 := Lib.hid ho6
          have HS6 := Lib.hid (HS4.out.grow' hg6)
          have hlen12 : (d1 ++ d2).length ≤ 1000 := by rw [List.length_append]; omega
          have hsz6 := hg6.size
          clear hap ho6 hg6 hsz5 e1 e2
          generalize d1 ++ d2 = d12 at *
          go_wp2_with fail
          refine (tknown_calls (Keep.refl NoB w6)).mono ?_
          rintro e w7 ⟨rfl, hg7⟩
          have HS7 := Lib.hid (HS6.out.grow' hg7)
          have Ho7 := Lib.hid (own_keep Ho6.out hg7 (fun _ _ h => h))
          clear hg7
          go_wp2_with fail
          refine (tst_due HS7.out.b b).mono ?_
          rintro e w8 ⟨d3, A3, c3, rfl, hd3, h8, hK8, ho8⟩
          obtain rfl := hd3.unique Hd12.out
          have HS8 := Lib.hid (HS7.out.right h8 hK8 (fun k h => .inl h))
          have Hx := Lib.hid (SliceR.of_own (own_keep Ho7.out hK8 (fun k hk hG => by have := (Ho7.out.lt k hk).1; have := HS4.out.b.lt k hG; omega)))
          have Hy := Lib.hid (SliceR.of_own ho8)
          clear h8 hK8 ho8 hd3
          go_wp2_with fail
          refine (same_calls A6 A3 c6 c3 _ w8 Hx.out Hy.out hlen12).mono ?_
          rintro e w9 ⟨rfl, hg9⟩
          have HS9 := Lib.hid (HS8.out.grow' hg9)
          clear hg9
          go_wp2_with fail
          refine (tlen_calls HS9.out.a.que).mono ?_
          rintro e w10 ⟨rfl, rfl⟩
          go_wp2_with fail
          refine (tlen_calls HS9.out.b.que).mono ?_
          rintro e w10 ⟨rfl, rfl⟩
          rw [restL_restL _ hle]
          go_wp2
          go_ret
          exact ⟨by simp, HS9.out.a.grow⟩
        · subst hab
          have g1 : a ≤ a := by omega
          have hle : a ≤ a := by omega
          have hlen := sl_length (tm l) l.length
          go_wp2_with fail
          refine (tst_due HS.out.a a).mono ?_
          rintro e w3 ⟨d1, A1, c1, rfl, hd1, h3, hK3, ho1⟩
          have HS3 := Lib.hid (HS.out.left h3 hK3 (fun k h => .inl h))
          have hn1 : d1.length ≤ 100 := by have := hd1.len; omega
          have Ho1 := Lib.hid ho1
          have Hd1 := Lib.hid hd1
          clear h3 hK3 ho1 hd1
          go_wp2_with fail
          refine (tst_due HS3.out.a a).mono ?_
          rintro e w4 ⟨d2, A2, c2, rfl, hd2, h4, hK4, ho2⟩
          have HS4 := Lib.hid (HS3.out.left h4 hK4 (fun k h => .inl h))
          have hn2 : d2.length ≤ 100 := by have := hd2.len; have := Hd1.out.len; omega
          have Hs1 := Lib.hid ((SliceR.of_own (own_keep Ho1.out hK4 (fun k hk hF => by have := (Ho1.out.lt k hk).1; have := HS.out.a.lt k hF; omega))).src u_ints (keysV_one d1))
          have Hd12 := Lib.hid (Hd1.out.parts (sl_nd (tm l) l.length) hle hd2)
          have Ho2 := Lib.hid ho2
          clear h4 hK4 ho2 hd2
          go_wp2_with (at_builtin; refine wpList_app _ rfl _ _ 54 54 rfl w4.heap.size 3 (.int .i64 0) 1 8 u_ints info_int rfl (.slice none 0 0) 0 [] rfl (.slice A1 d1.length c1) d1.length (keysV d1) rfl ?_ (by exact World.ownsRow_nil _ _ _ _) (by exact Hs1.out) (by simp only [maxLen]; omega) (by omega) (by exact Nat.le_refl _); intro v5 w5 hap; refine Hid.out ?_)
          refine Lib.hid ?_
          have ho5 := hap.own
          simp only [Nat.zero_add, List.nil_append] at ho5
          have hg5 : Grow w4 w5 := (Keep.refl NoB w4).grown hap.grew (by simp [Value.ownBlock])
          obtain ⟨A5, c5, rfl, _⟩ := own_slice ho5
          have Ho5 := Lib.hid ho5
          have Hg5 := Lib.hid hg5
          have Hs2 := Lib.hid ((SliceR.of_own (own_keep Ho2.out hg5 (fun _ _ h => h))).src u_ints (keysV_one d2))
          have hsz5 := hg5.size
          clear hap ho5 hg5
          go_wp2_with (at_builtin; refine wpList_app _ rfl _ _ 54 54 rfl w4.heap.size 3 (.int .i64 0) 1 8 u_ints info_int rfl (.slice A5 d1.length c5) d1.length (keysV d1) rfl (.slice A2 d2.length c2) d2.length (keysV d2) rfl ?_ (by exact Ho5.out) (by exact Hs2.out) (by simp only [maxLen]; omega) (by omega) (by omega); intro v6 w6 hap; refine Hid.out ?_)
          refine Lib.hid ?_
          have ho6 := hap.own
          have hg6 : Grow w4 w6 := ((Hg5.out.mono (T := fun k => w4.heap.size ≤ k) (fun _ h => h.elim)).grown hap.grew (fun k hk => .inl (Ho5.out.lt k hk).1)).new (fun _ h => h)
          have e1 : d1.length + d2.length = (d1 ++ d2).length := by simp
          have e2 : keysV d1 ++ keysV d2 = keysV (d1 ++ d2) := by simp [keysV]
          rw [e1, e2] at ho6
          obtain ⟨A6, c6, rfl, _⟩ := own_slice ho6
          have Ho6 := Lib.hid ho6
          have HS6 := Lib.hid (HS4.out.grow' hg6)
          have hlen12 : (d1 ++ d2).length ≤ 1000 := by rw [List.length_append]; omega
          have hsz6 := hg6.size
          clear hap ho6 hg6 hsz5 e1 e2
          generalize d1 ++ d2 = d12 at *
          go_wp2_with fail
          refine (tknown_calls (Keep.refl NoB w6)).mono ?_
          rintro e w7 ⟨rfl, hg7⟩
          have HS7 := Lib.hid (HS6.out.grow' hg7)
          have Ho7 := Lib.hid (own_keep Ho6.out hg7 (fun _ _ h => h))
          clear hg7
          go_wp2_with fail
          refine (tst_due HS7.out.b a).mono ?_
          rintro e w8 ⟨d3, A3, c3, rfl, hd3, h8, hK8, ho8⟩
          obtain rfl := hd3.unique Hd12.out
          have HS8 := Lib.hid (HS7.out.right h8 hK8 (fun k h => .inl h))
          have Hx := Lib.hid (SliceR.of_own (own_keep Ho7.out hK8 (fun k hk hG => by have := (Ho7.out.lt k hk).1; have := HS4.out.b.lt k hG; omega)))
          have Hy := Lib.hid (SliceR.of_own ho8)
          clear h8 hK8 ho8 hd3
          go_wp2_with fail
          refine (same_calls A6 A3 c6 c3 _ w8 Hx.out Hy.out hlen12).mono ?_
          rintro e w9 ⟨rfl, hg9⟩
          have HS9 := Lib.hid (HS8.out.grow' hg9)
          clear hg9
          go_wp2_with fail
          refine (tlen_calls HS9.out.a.que).mono ?_
          rintro e w10 ⟨rfl, rfl⟩
          go_wp2_with fail
          refine (tlen_calls HS9.out.b.que).mono ?_
          rintro e w10 ⟨rfl, rfl⟩
          rw [restL_restL _ hle]
          go_wp2
          go_ret
          exact ⟨by simp, HS9.out.a.grow⟩
        · have g1 : ¬ (a ≤ b) := by omega
          have g2 : b ≤ a := by omega
          have hle : b ≤ a := by omega
          have hlen := sl_length (tm l) l.length
          go_wp2_with fail
          refine (tst_due HS.out.a b).mono ?_
          rintro e w3 ⟨d1, A1, c1, rfl, hd1, h3, hK3, ho1⟩
          have HS3 := Lib.hid (HS.out.left h3 hK3 (fun k h => .inl h))
          have hn1 : d1.length ≤ 100 := by have := hd1.len; omega
          have Ho1 := Lib.hid ho1
          have Hd1 := Lib.hid hd1
          clear h3 hK3 ho1 hd1
          go_wp2_with fail
          refine (tst_due HS3.out.a a).mono ?_
          rintro e w4 ⟨d2, A2, c2, rfl, hd2, h4, hK4, ho2⟩
          have HS4 := Lib.hid (HS3.out.left h4 hK4 (fun k h => .inl h))
          have hn2 : d2.length ≤ 100 := by have := hd2.len; have := Hd1.out.len; omega
          have Hs1 := Lib.hid ((SliceR.of_own (own_keep Ho1.out hK4 (fun k hk hF => by have := (Ho1.out.lt k hk).1; have := HS.out.a.lt k hF; omega))).src u_ints (keysV_one d1))
          have Hd12 := Lib.hid (Hd1.out.parts (sl_nd (tm l) l.length) hle hd2)
          have Ho2 := Lib.hid ho2
          clear h4 hK4 ho2 hd2
          go_wp2_with (at_builtin; refine wpList_app _ rfl _ _ 54 54 rfl w4.heap.size 3 (.int .i64 0) 1 8 u_ints info_int rfl (.slice none 0 0) 0 [] rfl (.slice A1 d1.length c1) d1.length (keysV d1) rfl ?_ (by exact World.ownsRow_nil _ _ _ _) (by exact Hs1.out) (by simp only [maxLen]; omega) (by omega) (by exact Nat.le_refl _); intro v5 w5 hap; refine Hid.out ?_)
          refine Lib.hid ?_
          have ho5 := hap.own
          simp only [Nat.zero_add, List.nil_append] at ho5
          have hg5 : Grow w4 w5 := (Keep.refl NoB w4).grown hap.grew (by simp [Value.ownBlock])
          obtain ⟨A5, c5, rfl, _⟩ := own_slice ho5
          have Ho5 := Lib.hid ho5
          have Hg5 := Lib.hid hg5
          have Hs2 := Lib.hid ((SliceR.of_own (own_keep Ho2.out hg5 (fun _ _ h => h))).src u_ints (keysV_one d2))
          have hsz5 := hg5.size
          clear hap ho5 hg5
          go_wp2_with (at_builtin; refine wpList_app _ rfl _ _ 54 54 rfl w4.heap.size 3 (.int .i64 0) 1 8 u_ints info_int rfl (.slice A5 d1.length c5) d1.length (keysV d1) rfl (.slice A2 d2.length c2) d2.length (keysV d2) rfl ?_ (by exact Ho5.out) (by exact Hs2.out) (by simp only [maxLen]; omega) (by omega) (by omega); intro v6 w6 hap; refine Hid.out ?_)
          refine Lib.hid ?_
          have ho6 := hap.own
          have hg6 : Grow w4 w6 := ((Hg5.out.mono (T := fun k => w4.heap.size ≤ k) (fun _ h => h.elim)).grown hap.grew (fun k hk => .inl (Ho5.out.lt k hk).1)).new (fun _ h => h)
          have e1 : d1.length + d2.length = (d1 ++ d2).length := by simp
          have e2 : keysV d1 ++ keysV d2 = keysV (d1 ++ d2) := by simp [keysV]
          rw [e1, e2] at ho6
          obtain ⟨A6, c6, rfl, _⟩ := own_slice ho6
          have Ho6 := Lib.hid ho6
          have HS6 := Lib.hid (HS4.out.grow' hg6)
          have hlen12 : (d1 ++ d2).length ≤ 1000 := by rw [List.length_append]; omega
          have hsz6 := hg6.size
          clear hap ho6 hg6 hsz5 e1 e2
          generalize d1 ++ d2 = d12 at *
          go_wp2_with fail
          refine (tknown_calls (Keep.refl NoB w6)).mono ?_
          rintro e w7 ⟨rfl, hg7⟩
          have HS7 := Lib.hid (HS6.out.grow' hg7)
          have Ho7 := Lib.hid (own_keep Ho6.out hg7 (fun _ _ h => h))
          clear hg7
          go_wp2_with fail
          refine (tst_due HS7.out.b a).mono ?_
          rintro e w8 ⟨d3, A3, c3, rfl, hd3, h8, hK8, ho8⟩
          obtain rfl := hd3.unique Hd12.out
          have HS8 := Lib.hid (HS7.out.right h8 hK8 (fun k h => .inl h))
          have Hx := Lib.hid (SliceR.of_own (own_keep Ho7.out hK8 (fun k hk hG => by have := (Ho7.out.lt k hk).1; have := HS4.out.b.lt k hG; omega)))
          have Hy := Lib.hid (SliceR.of_own ho8)
          clear h8 hK8 ho8 hd3
          go_wp2_with fail
          refine (same_calls A6 A3 c6 c3 _ w8 Hx.out Hy.out hlen12).mono ?_
          rintro e w9 ⟨rfl, hg9⟩
          have HS9 := Lib.hid (HS8.out.grow' hg9)
          clear hg9
          go_wp2_with fail
          refine (tlen_calls HS9.out.a.que).mono ?_
          rintro e w10 ⟨rfl, rfl⟩
          go_wp2_with fail
          refine (tlen_calls HS9.out.b.que).mono ?_
          rintro e w10 ⟨rfl, rfl⟩
          rw [restL_restL _ hle]
          go_wp2
          go_ret
          exact ⟨by simp, HS9.out.a.grow⟩
end Go.Proofs.Ytimpnbkincgbmaa

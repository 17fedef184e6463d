import Derived.Test.YtimpnbkincgbmaaNetP
import Derived.Test.YtimpnbkincgbmaaArgs
import Derived.LoopTactic
set_option linter.unusedSimpArgs false
set_option linter.unusedVariables false
namespace Go.Proofs.Ytimpnbkincgbmaa
open Go.RowKit

/-- A deed. -/
structure De where
  k : Int
  i : Int
  b : List Int
/-- A list of deeds, read; what they lead to lies in blocks of C. -/
def DesR (A : Option Addr) (ds : List De) (C : Nat → Prop) (w : World) : Prop :=
  ∀ j (h : j < ds.length), ∃ ad A' c', A = some ad ∧ w.cell? (ad.add (j * 3)) = some (.int .u8 ds[j].k) ∧ w.cell? ⟨(ad.add (j * 3)).block, (ad.add (j * 3)).off + 1, none⟩ = some (.int .i64 ds[j].i) ∧ w.cell? ⟨(ad.add (j * 3)).block, (ad.add (j * 3)).off + 2, none⟩ = some (.slice A' ds[j].b.length c') ∧
    Foot (SliceR 1 (.slice A' ds[j].b.length c') ds[j].b.length (u8s ds[j].b)) w C ∧ 0 ≤ ds[j].k ∧ ds[j].k ≤ 255
theorem DesR.grow {A : Option Addr} {ds : List De} {C : Nat → Prop} {w w' : World} (h : DesR A ds C w) (hk : Grow w w') : DesR A ds C w' := fun j hj => by
  obtain ⟨ad, A', c', h1, h2, h3, h4, h5, h6⟩ := h j hj
  exact ⟨ad, A', c', h1, hk.cell h2 (fun h => h), hk.cell h3 (fun h => h), hk.cell h4 (fun h => h), h5.grow hk, h6⟩

set_option maxRecDepth 100000 in
theorem heavy_calls (A : Option Addr) (cap : Nat) (ds : List De) (C : Nat → Prop) (w : World) (hd : DesR A ds C w) (hcap : ds.length ≤ cap) (hm : cap ≤ maxLen) :
    Calls Try.prog 21 #[.slice A ds.length cap] w fun e w' => ∃ o, e = .returned (.bool o) ∧ w = w' := by
  have Hd := Lib.hid hd
  clear hd
  have hmm : ds.length ≤ 9223372036854775807 := by simp only [maxLen] at hm; omega
  clear hm
  go_enter Try.func21, Try.ntmps21
  go_wp2
  go_loopw [3, 4] (fun vx v wr => wr = w ∧ (∃ x : Int, vx = .int .i64 x) ∧ ∃ k : Nat, k ≤ ds.length ∧ v = .int .i64 k) (fun _ v _ => ds.length - (intOf v).toNat)
  case atStart => exact ⟨rfl, ⟨0, rfl⟩, 0, by omega, rfl⟩
  case round =>
    obtain ⟨rfl, ⟨x, rfl⟩, k, hk, rfl⟩ := hrel
    by_cases hlt : k < ds.length
    · obtain ⟨ad, A', c', rfl, h1, h2, h3, _⟩ := Hd.out k hlt
      have hlt' : (k : Int) < ds.length := by omega
      have hw : IntKind.i64.wrap ((k : Int) + 1) = (k : Int) + 1 := IntWalk.i64_in _ (by omega)
      go_wp2
      go_roundw
      case rel => exact ⟨trivial, ⟨_, rfl⟩, k + 1, by omega, by go_num⟩
      case measure => simp [intOf]; omega
    · have hlt' : ¬ ((k : Int) < ds.length) := by omega
      go_wp2
      go_ret
      by_cases hx : 1500 < x <;> simp [hx]

set_option maxRecDepth 100000 in
set_option maxHeartbeats 2000000 in
theorem does_calls (A : Option Addr) (cap : Nat) (ds : List De) (W : World) (hd : DesR A ds (fun k => k < W.heap.size) W) (hcap : ds.length ≤ cap) (hm : cap ≤ maxLen) :
    Calls Try.prog 5 #[.slice A ds.length cap] W fun e w' => e = .returned (.bool true) ∧ Grow W w' := by
  have Hd := Lib.hid hd
  have Hm := Lib.hid hm
  clear hd hm
  go_enter Try.func5, Try.ntmps5
  go_wp2_with fail
  refine (heavy_calls A cap ds _ W Hd.out hcap Hm.out).mono ?_
  rintro e w1 ⟨o, rfl, rfl⟩
  cases o with
  | true =>
    go_wp2_with fail
    refine (nknown_calls W).mono ?_
    rintro e w1 ⟨rfl, h1⟩
    go_wp2
    go_ret
    exact ⟨rfl, h1⟩
  | false =>
    go_wp2_with fail
    refine (nknown_calls W).mono ?_
    rintro e w1 ⟨rfl, h1⟩
    go_wp2_with fail
    refine (net_new w1).mono ?_
    rintro e w2 ⟨g, F, rfl, hN, h2, hF⟩
    have HS : Hid (St W g [] [] F NoB (.slice none 0 0) w2) := ⟨hN, ref_nil _, fun k hk => Nat.le_trans h1.size (hF k hk), fun k h => h.elim, h1.grow h2⟩
    clear hN h1 h2 hF
    have hmm : ds.length ≤ 9223372036854775807 := by have := Hm.out; simp only [maxLen] at this; omega
    go_wp2
    go_loopw [4, 5] (fun vl v wr => ∃ k : Nat, k ≤ ds.length ∧ v = .int .i64 k ∧ ∃ l F R, Hid (St W g l l F R vl wr)) (fun _ v _ => ds.length - (intOf v).toNat)
    case atStart => exact ⟨0, by omega, rfl, _, _, _, HS⟩
    case round =>
      clear HS F
      obtain ⟨k, hk, rfl, l, F, R, HS⟩ := hrel
      by_cases hlt : k < ds.length
      · obtain ⟨ad, A', c', rfl, h1, h2, h3, h4, h5, h6⟩ := Hd.out k hlt
        obtain ⟨A1, c1, rfl⟩ := HS.out.ref.slice
        have hlt' : (k : Int) < ds.length := by omega
        have hw : IntKind.i64.wrap ((k : Int) + 1) = (k : Int) + 1 := IntWalk.i64_in _ (by omega)
        have hg := HS.out.grow
        have q1 := hg.cell h1 (fun h => h)
        have q2 := hg.cell h2 (fun h => h)
        have q3 := hg.cell h3 (fun h => h)
        have H4 := Lib.hid (h4.grow hg)
        have H1 := Lib.hid h1
        have H2 := Lib.hid h2
        have H3 := Lib.hid h3
        clear h1 h2 h3 h4 hg
        go_wp2_with fail
        refine (deed_calls W g l F R _ _ wr HS.out ds[k].k ds[k].i h5 h6 A' c' ds[k].b H4.out (fun _ h => h)).mono ?_
        rintro e w2 ⟨v2, rfl, l2, F2, R2, hS2⟩
        obtain ⟨A2, c2, rfl⟩ := hS2.ref.slice
        have q4 := hS2.grow.cell H2.out (fun h => h)
        have HS2 := Lib.hid hS2
        clear hS2 q1 q2 q3
        go_wp2_with fail
        refine (nat_any g l2 F2 w2 HS2.out.net _).mono ?_
        rintro e w3 ⟨A3, c3, rfl, hs3, hg3⟩
        have q5 := hg3.cell q4 (fun h => h)
        have HS3 := Lib.hid (HS2.out.ge' hg3)
        have Hs3 := Lib.hid hs3
        clear hs3 hg3 q4 HS2
        go_wp2_with fail
        refine (rat_any l2 _ R2 w3 HS3.out.ref _).mono ?_
        rintro e w4 ⟨A4, c4, rfl, hs4, hg4⟩
        have hx := (Keep.refl NoB w4).alloc (.cells #[.int .i64 (tk l2 (ds[k].i.tmod 9)).1, .slice A4 (tk l2 (ds[k].i.tmod 9)).2.length c4] 43)
        have HS4 := Lib.hid ((HS3.out.ge' hg4).ge' hx)
        have Hs4 := Lib.hid hs4
        have z3 := conv_str ((Hs3.out.grow hg4).grow hx)
        have z4 := conv_str (Hs4.out.grow hx)
        clear hs4 hg4 q5 HS3 hx
        go_wp2_with fail
        refine (nlen_calls g l2 F2 _ HS4.out.net).mono ?_
        rintro e w5 ⟨rfl, rfl⟩
        go_wp2
        go_roundw
        case rel => exact ⟨k + 1, by omega, by go_num, l2, F2, R2, HS4.out⟩
        case measure => simp [intOf]; omega
      · have hlt' : ¬ ((k : Int) < ds.length) := by omega
        go_wp2
        go_ret
        exact ⟨rfl, HS.out.grow⟩
end Go.Proofs.Ytimpnbkincgbmaa

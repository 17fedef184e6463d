import Derived.Test.YtimpnbkincgbmaaTkE
import Derived.LoopTactic
set_option linter.unusedSimpArgs false
set_option linter.unusedVariables false
namespace Go.Proofs.Ytimpnbkincgbmaa
open Go.RowKit

set_option maxRecDepth 100000 in
set_option maxHeartbeats 2000000 in
theorem klike_calls (W : World) (q : Nat) (l : List KT) (F : Nat → Prop) (v : Value) (w : World) (hS : KSt W q l F v w) (key : Int) (hkey : okI key) :
    Calls Try.prog 34 #[.pointer (some ⟨q, 0, none⟩), v, .int .i64 key] w fun e w' => e = .returned (.bool true) ∧ Grow w w' := by
  obtain ⟨A1, c1, rfl⟩ := hS.ref.slice
  have HS := Lib.hid hS
  clear hS
  by_cases hnil : l = []
  · subst hnil
    go_enter Try.func34, Try.ntmps34
    go_wp2_with fail
    refine (tnext_no HS.out.tst.que).mono ?_
    rintro e w2 ⟨rfl, rfl⟩
    go_wp2_with fail
    refine (knext_calls [] _ w HS.out.ref (by simp)).mono ?_
    rintro e w2 ⟨b, rfl, hg, hb⟩
    obtain rfl := hb.nil
    have Hg := Lib.hid (hg.alloc (.cells #[.int .i64 0, .int .i64 0] 106))
    have hd := heap_alloc_new w2 (.cells #[.int .i64 0, .int .i64 0] 106)
    have hx0 : (w2.alloc (.cells #[.int .i64 0, .int .i64 0] 106)).cell? ⟨w2.heap.size, 0, none⟩ = some (.int .i64 0) := World.news_of_block hd 0 _ rfl
    have hx1 : (w2.alloc (.cells #[.int .i64 0, .int .i64 0] 106)).cell? ⟨w2.heap.size, 1, none⟩ = some (.int .i64 0) := World.news_of_block hd 1 _ rfl
    have HS3 := Lib.hid (HS.out.grow Hg.out)
    clear hg hb hd
    go_wp2_with fail
    refine (tat_calls HS3.out.tst.que key hkey).mono ?_
    rintro e w4 ⟨rfl, rfl⟩
    go_wp2_with fail
    refine (kat_calls [] _ _ HS3.out.ref (by simp) HS3.out.nd key).mono ?_
    rintro e w4 ⟨rfl, rfl⟩
    go_wp2_with fail
    refine (tlen_calls HS3.out.tst.que).mono ?_
    rintro e w4 ⟨rfl, rfl⟩
    go_wp2
    go_ret
    exact ⟨rfl, Hg.out⟩
  · have hpos : (0 : Int) < l.length := by have := List.length_pos_iff.2 hnil; omega
    have hl0 : 0 < l.length := by omega
    go_enter Try.func34, Try.ntmps34
    go_wp2_with fail
    refine (tnext_yes HS.out.tst.que hnil).mono ?_
    rintro e w2 ⟨x, rfl, hg, hx, hm, hok⟩
    have HS2 := Lib.hid (HS.out.grow hg)
    have Hg2 := Lib.hid hg
    have Hm := Lib.hid (And.intro hx hm)
    clear hg hx hm hok
    go_wp2_with fail
    refine (knext_calls l _ w2 HS2.out.ref HS2.out.few).mono ?_
    rintro e w3 ⟨b, rfl, hg, hb⟩
    obtain rfl : b = x := lekt_antisymm ((hb.all hnil).2 _ Hm.out.1) (Hm.out.2 _ (hb.all hnil).1)
    have Hg := Lib.hid (hg.alloc (.cells #[.int .i64 b.1, .int .i64 b.2] 106))
    have hd := heap_alloc_new w3 (.cells #[.int .i64 b.1, .int .i64 b.2] 106)
    have hx0 : (w3.alloc (.cells #[.int .i64 b.1, .int .i64 b.2] 106)).cell? ⟨w3.heap.size, 0, none⟩ = some (.int .i64 b.1) := World.news_of_block hd 0 _ rfl
    have hx1 : (w3.alloc (.cells #[.int .i64 b.1, .int .i64 b.2] 106)).cell? ⟨w3.heap.size, 1, none⟩ = some (.int .i64 b.2) := World.news_of_block hd 1 _ rfl
    have HS3 := Lib.hid (HS2.out.grow Hg.out)
    clear hg hb hd hnil
    go_wp2_with fail
    refine (tat_calls HS3.out.tst.que key hkey).mono ?_
    rintro e w4 ⟨rfl, rfl⟩
    go_wp2_with fail
    refine (kat_calls l _ _ HS3.out.ref HS3.out.few HS3.out.nd key).mono ?_
    rintro e w4 ⟨rfl, rfl⟩
    go_wp2_with fail
    refine (tlen_calls HS3.out.tst.que).mono ?_
    rintro e w4 ⟨rfl, rfl⟩
    go_wp2
    go_ret
    exact ⟨rfl, Hg2.out.grow Hg.out⟩

/-- A deed: kind, key, time. -/
structure TDe where
  k : Int
  i : Int
  t : Int
/-- A list of deeds, read. -/
def TDesR (A : Option Addr) (ds : List TDe) (w : World) : Prop :=
  ∀ j (h : j < ds.length), ∃ ad, A = some ad ∧ w.cell? (ad.add (j * 3)) = some (.int .u8 ds[j].k) ∧ w.cell? ⟨(ad.add (j * 3)).block, (ad.add (j * 3)).off + 1, none⟩ = some (.int .i64 ds[j].i) ∧ w.cell? ⟨(ad.add (j * 3)).block, (ad.add (j * 3)).off + 2, none⟩ = some (.int .i64 ds[j].t) ∧
    0 ≤ ds[j].k ∧ ds[j].k ≤ 255 ∧ okI ds[j].i

set_option maxRecDepth 100000 in
set_option maxHeartbeats 2000000 in
theorem tdoes_calls (A : Option Addr) (cap : Nat) (ds : List TDe) (W : World) (hd : TDesR A ds W) (hcap : ds.length ≤ cap) (hm : cap ≤ maxLen) :
    Calls Try.prog 11 #[.slice A ds.length cap] W fun e w' => e = .returned (.bool true) ∧ Grow W w' := by
  have Hd := Lib.hid hd
  clear hd
  have hmm : ds.length ≤ 9223372036854775807 := by simp only [maxLen] at hm; omega
  clear hm
  by_cases hbig : 80 < (ds.length : Int)
  · go_enter Try.func11, Try.ntmps11
    go_wp2_with fail
    refine (tknown_calls (Keep.refl NoB W)).mono ?_
    rintro e w1 ⟨rfl, h1⟩
    go_wp2
    go_ret
    exact ⟨rfl, h1⟩
  · go_enter Try.func11, Try.ntmps11
    go_wp2_with fail
    refine (tknown_calls (Keep.refl NoB W)).mono ?_
    rintro e w1 ⟨rfl, h1⟩
    go_wp2_with fail
    refine (tst_new h1).mono ?_
    rintro e w2 ⟨q, F, rfl, hN, h2, hF⟩
    have HS : Hid (KSt W q [] F (.slice none 0 0) w2) := ⟨hN, World.ownsRow_nil _ _ _ _, fun k hk => by simp [Value.ownBlock] at hk⟩
    clear hN h1 h2 hF
    go_wp2
    go_loopw [4, 5] (fun vl v wr => ∃ k : Nat, k ≤ ds.length ∧ v = .int .i64 k ∧ ∃ l F, Hid (KSt W q l F vl wr)) (fun _ v _ => ds.length - (intOf v).toNat)
    case atStart => exact ⟨0, by omega, rfl, _, _, HS⟩
    case round =>
      clear HS F
      obtain ⟨k, hk, rfl, l, F, HS⟩ := hrel
      by_cases hlt : k < ds.length
      · obtain ⟨ad, rfl, h1, h2, h3, h5, h6, h7⟩ := Hd.out k hlt
        obtain ⟨A1, c1, rfl⟩ := HS.out.ref.slice
        have hlt' : (k : Int) < ds.length := by omega
        have hw : IntKind.i64.wrap ((k : Int) + 1) = (k : Int) + 1 := IntWalk.i64_in _ (by omega)
        have hg := HS.out.tst.grow
        have q1 := hg.cell h1 (fun h => h)
        have q2 := hg.cell h2 (fun h => h)
        have q3 := hg.cell h3 (fun h => h)
        have H2 := Lib.hid h2
        have H7 := Lib.hid h7
        clear h1 h2 h3 hg h7
        go_wp2_with fail
        refine (kdeed_calls W q l F _ wr HS.out ds[k].k ds[k].i ds[k].t h5 h6 H7.out).mono ?_
        rintro e w2 ⟨v2, rfl, l2, F2, hS2⟩
        obtain ⟨A2, c2, rfl⟩ := hS2.ref.slice
        have q4 := hS2.tst.grow.cell H2.out (fun h => h)
        have HS2 := Lib.hid hS2
        clear hS2 q1 q2 q3
        go_wp2_with fail
        refine (klike_calls W q l2 F2 _ w2 HS2.out ds[k].i H7.out).mono ?_
        rintro e w3 ⟨rfl, hg3⟩
        have HS3 := Lib.hid (HS2.out.grow hg3)
        clear hg3 q4 HS2
        go_wp2
        go_roundw
        case rel => exact ⟨k + 1, by omega, by go_num, l2, F2, HS3.out⟩
        case measure => simp [intOf]; omega
      · have hlt' : ¬ ((k : Int) < ds.length) := by omega
        go_wp2
        go_ret
        exact ⟨rfl, HS.out.tst.grow⟩
end Go.Proofs.Ytimpnbkincgbmaa

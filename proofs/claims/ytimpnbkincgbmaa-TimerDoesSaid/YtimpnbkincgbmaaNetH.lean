import Derived.Test.YtimpnbkincgbmaaNetG
set_option linter.unusedSimpArgs false
set_option linter.unusedVariables false
namespace Go.Proofs.Ytimpnbkincgbmaa
open Go.RowKit

set_option maxRecDepth 100000 in
theorem nknown_calls (w : World) : Calls Try.prog 14 #[] w fun e w' => e = .returned (.bool true) ∧ Grow w w' := by
  have kc := conv_const
  go_enter Try.func14, Try.ntmps14
  go_wp2_with fail
  refine (net_new w).mono ?_
  rintro e w1 ⟨g, F, rfl, hN, h1, hF⟩
  have HN := Lib.hid hN
  clear hN
  go_wp2_with fail
  refine (push_yes g [] F _ (HN.out.keep ((Keep.refl NoB w1).alloc _) (fun _ _ h => h)) 1 (by omega) (by omega) _ [97] (SliceR.of_block (n := 1) (c := 1) (cs := #[.int .u8 97]) (T := 5) (fr := (1, 2)) (heap_alloc_new w1 _) (by omega) rfl) (by simp) (by simp)).mono ?_
  rintro e w2 ⟨rfl, F2, hN2, h2, hF2⟩
  have HN2 := Lib.hid hN2
  clear hN2
  go_wp2_with fail
  refine (twice_yes g _ F2 0 w2 HN2.out (by simp) (by simp) (by simp) (by simp)).mono ?_
  rintro e w3 ⟨rfl, F3, hN3, h3, hF3⟩
  have HN3 := Lib.hid hN3
  clear hN3
  go_wp2_with fail
  refine (nlen_calls g _ F3 w3 HN3.out).mono ?_
  rintro e w4 ⟨rfl, rfl⟩
  go_wp2
  go_ret
  have h12 : Keep F w w2 := ((h1.mono (fun _ h => h.elim)).alloc _).trans h2 (fun k hk => .inl hk)
  exact ⟨rfl, (h12.trans h3 (fun k hk => (hF2 k hk).imp id (fun h => Nat.le_trans h1.size (Nat.le_trans (by simp) h)))).new hF⟩
end Go.Proofs.Ytimpnbkincgbmaa

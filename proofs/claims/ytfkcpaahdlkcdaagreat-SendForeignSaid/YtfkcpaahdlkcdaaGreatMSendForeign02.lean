import Derived.Test.YtfkcpaahdlkcdaaGreatMSendForeign01
/-! Joined: SrG. -/
set_option linter.unusedSimpArgs false
set_option linter.unusedVariables false
namespace Go.Proofs.YtfkcpaahdlkcdaaGreat
open Go.RowKit

theorem openD_session (now : Int) (d : Snd) : (openD now d).session = d.session := by
  unfold openD
  split
  · exact (askD_st now 0 d _).1
  · split
    · exact (askD_st now _ _ _).1.trans (askD_st now 0 d _).1
    · split
      · exact (askD_st now 0 d _).1
      · exact (askD_st now 0 d _).1
theorem tickL_session (now : Int) : ∀ (ds : List KT) (d : Snd) (out : List Gm), (tickL now ds d out).1.session = d.session
  | [], d, out => rfl
  | x :: r, d, out => by
    unfold tickL
    split
    · rfl
    · exact (tickL_session now r _ _).trans rfl
theorem next_ne (s : Int) (h0 : 0 ≤ s) (h1 : s ≤ 18446744073709551615) : IntKind.u64.wrap (s + 1) ≠ s := by
  by_cases h : s = 18446744073709551615
  · subst h; decide
  · rw [IntWalk.u64_in _ (by omega)]; omega

set_option maxRecDepth 100000 in
set_option maxHeartbeats 16000000 in
theorem sendForeign_calls (session : Int) (A : Option Addr) (c : Nat) (l : List Int) (k j kind gs gi go : Int) (sum : Nat) (A1 : Option Addr) (n1 c1 : Nat) (A2 : Option Addr) (n2 c2 : Nat) (n : Int) (W : World) (h : SliceR 1 (.slice A l.length c) l.length (u8s l) W) (hu : okU l) (hs0 : 0 ≤ session) (hs1 : session ≤ 18446744073709551615) (hk : 0 ≤ k ∧ k ≤ 255) (hj : 0 ≤ j ∧ j ≤ 255) (hn : 0 ≤ n ∧ n ≤ 255) (hgs : 0 ≤ gs ∧ gs ≤ 18446744073709551615) :
    Calls Tryz.prog 6 #[.int .u64 session, .slice A l.length c, .int .u8 k, .int .u8 j, .agg #[.int .i64 kind, .int .u64 gs, .int .i64 gi, .int .i64 go, .int .u32 (sum : Nat), .slice A1 n1 c1, .slice A2 n2 c2], .int .u8 n] W fun e w' => e = .returned (.bool true) ∧ Grow W w' := by
  obtain ⟨hn0, hn1⟩ := hn
  have HGS := Lib.hid hgs
  clear hgs
  have hgB := (Keep.refl NoB W).alloc (.cells #[.int .i64 kind, .int .u64 gs, .int .i64 gi, .int .i64 go, .int .u32 (sum : Nat), .slice A1 n1 c1, .slice A2 n2 c2] 46)
  have HGB := Lib.hid hgB
  have HCB := Lib.hid (heap_alloc_new W (.cells #[.int .i64 kind, .int .u64 gs, .int .i64 gi, .int .i64 go, .int .u32 (sum : Nat), .slice A1 n1 c1, .slice A2 n2 c2] 46))
  obtain ⟨z0, z1, z2, z3, z4, z5, z6, zf⟩ := cells7 HCB.out
  by_cases hlen : 100 < l.length
  · have hgt : (100 : Int) < ((l.length : Nat) : Int) := by omega
    clear h hu hk hj hgB
    go_enter Tryz.func6, Tryz.ntmps6
    go_wp2_with fail
    refine (known_true _).mono ?_
    rintro e w1 ⟨rfl, hg⟩
    have HG := Lib.hid (HGB.out.grow hg)
    clear hg
    go_wp2
    go_ret
    exact ⟨rfl, HG.out⟩
  have hgt : ¬ ((100 : Int) < ((l.length : Nat) : Int)) := by omega
  by_cases hb2 : 100 < n2
  · have hgt2 : (100 : Int) < ((n2 : Nat) : Int) := by omega
    clear h hu hk hj hgB
    go_enter Tryz.func6, Tryz.ntmps6
    go_wp2_with fail
    refine (known_true _).mono ?_
    rintro e w1 ⟨rfl, hg⟩
    have HG := Lib.hid (HGB.out.grow hg)
    clear hg
    go_wp2
    go_ret
    exact ⟨rfl, HG.out⟩
  have hgt2 : ¬ ((100 : Int) < ((n2 : Nat) : Int)) := by omega
  by_cases hb1 : 20 < n1
  · have hgt1 : (20 : Int) < ((n1 : Nat) : Int) := by omega
    clear h hu hk hj hgB
    go_enter Tryz.func6, Tryz.ntmps6
    go_wp2_with fail
    refine (known_true _).mono ?_
    rintro e w1 ⟨rfl, hg⟩
    have HG := Lib.hid (HGB.out.grow hg)
    clear hg
    go_wp2
    go_ret
    exact ⟨rfl, HG.out⟩
  have hgt1 : ¬ ((20 : Int) < ((n1 : Nat) : Int)) := by omega
  have HBT := Lib.hid (bent_calls l A c k _ (h.grow hgB) (by omega) hu hk.1 hk.2)
  have HKJ := Lib.hid (And.intro hk hj)
  have HS01 := Lib.hid (And.intro hs0 hs1)
  clear h hu hk hj hlen hs0 hs1 hb1 hb2
  go_enter Tryz.func6, Tryz.ntmps6
  go_wp2_with fail
  refine HBT.out.mono ?_
  rintro e w1 ⟨a, Aa, ca, rfl, hg, hoa, hrows⟩
  have hgr := HGB.out
  have hszB : (W.alloc (.cells #[.int .i64 kind, .int .u64 gs, .int .i64 gi, .int .i64 go, .int .u32 (sum : Nat), .slice A1 n1 c1, .slice A2 n2 c2] 46)).heap.size = W.heap.size + 1 := by simp
  have HG := Lib.hid (hgr.grow hg)
  replace HCB := Lib.hid (Grow.heap hg HCB.out)
  have HZ1 : Hid (W.heap.size < w1.heap.size) := Lib.hid (by have := hg.size; omega)
  have HO := Lib.hid hoa
  have HR := Lib.hid hrows
  clear hg hoa hrows HBT hgB hgr hszB HGB z0 z1 z2 z3 z4 z5 z6 zf hgt hgt1 hgt2
  go_wp2_with fail
  refine (config_calls k j _ HKJ.out.1 HKJ.out.2).mono ?_
  rintro e w2 ⟨rfl, hg⟩
  replace HG := Lib.hid (HG.out.grow hg)
  replace HR := Lib.hid (HR.out.grow hg)
  replace HCB := Lib.hid (Grow.heap hg HCB.out)
  replace HZ1 : Hid (W.heap.size < w2.heap.size) := Lib.hid (Nat.lt_of_lt_of_le HZ1.out hg.size)
  clear hg
  have HCF := Lib.hid (config_ok k j HKJ.out.1 HKJ.out.2)
  go_wp2_with fail
  by_cases hchk : checkP a = 0
  case neg =>
    refine (snew_err session a HO.out hchk HCF.out Aa ca w2 HR.out).mono ?_
    rintro e w3 ⟨rfl, hg⟩
    replace HG := Lib.hid (HG.out.grow hg)
    have hcb : (checkP a != 0) = true := by simp [hchk]
    clear hg hchk
    go_wp2_with fail
    refine (known_true _).mono ?_
    rintro e w4 ⟨rfl, hg⟩
    replace HG := Lib.hid (HG.out.grow hg)
    clear hg
    go_wp2
    go_ret
    exact ⟨rfl, HG.out⟩
  refine (snew_calls session HS01.out.1 HS01.out.2 a HO.out hchk HCF.out Aa ca w2 HR.out).mono ?_
  rintro e w3 ⟨g, p, Fq, G, rfl, hS, hg, hsf, hGn⟩
  obtain ⟨d, hd⟩ : ∃ d, newD session a (1 + k % 5) (1 + k / 16) (1 + j % 40) 1048576 = d := ⟨_, rfl⟩
  rw [hd] at hS
  have hp : d.phase = 1 := by rw [← hd]; rfl
  have hss : d.session = session := by rw [← hd]; rfl
  have HS := Lib.hid hS
  have HSF : Hid (∀ k, SF g p.rt Fq k → W.heap.size < k) := Lib.hid (fun k hk => Nat.lt_of_lt_of_le HZ1.out (hsf k hk))
  have HGN : Hid (¬ G W.heap.size) := Lib.hid (fun hk => by have := hGn _ hk; have := HZ1.out; omega)
  replace HG := Lib.hid (HG.out.grow hg)
  replace HCB := Lib.hid (Grow.heap hg HCB.out)
  replace HZ1 : Hid (W.heap.size < w3.heap.size) := Lib.hid (Nat.lt_of_lt_of_le HZ1.out hg.size)
  have HP := Lib.hid hp
  have HSS := Lib.hid hss
  clear hS hg hsf hd hp hss hchk HR HO HCF hGn
  go_wp2_with fail
  refine (tick_calls HS.out HP.out 0 (by omega) (by omega)).mono ?_
  rintro e w4 ⟨A4, c4, rows, Gr, p4, F4, ds, rfl, hdue, hrt, hS, hrows, hout, hK, hG, hdis⟩
  have hst := SAt.step HG.out (fun k hk => Nat.le_of_lt (HSF.out k hk)) hK hG hrt
  have hses : (tickL 0 ds { openD 0 d with tm := restL (openD 0 d).tm 0 } []).1.session = session := (tickL_session 0 ds _ []).trans ((openD_session 0 d).trans HSS.out)
  have hns : ¬ SF g p.rt Fq W.heap.size := fun hk => by have := HSF.out _ hk; omega
  have hns4 : ¬ SF g p4.rt F4 W.heap.size := fun hk => by
    rcases hk with e | e | e
    · exact hns (.inl e)
    · rw [hrt] at e; exact hns (.inr (.inl e))
    · rcases hG _ e with e | e
      · exact hns (.inr (.inr e))
      · have := HZ1.out; omega
  replace HCB := Lib.hid ((hK.block _ HZ1.out hns).trans HCB.out)
  replace HZ1 : Hid (W.heap.size < w4.heap.size) := Lib.hid (Nat.lt_of_lt_of_le HZ1.out hK.size)
  replace HG := Lib.hid hst.1
  generalize (tickL 0 ds { openD 0 d with tm := restL (openD 0 d).tm 0 } []).1 = d1 at hS hses
  replace HS := Lib.hid hS
  have HNS := Lib.hid hns4
  replace HSS := Lib.hid hses
  clear hst hses hns hns4 hdue hrt hS hrows hout hK hG hdis HSF HP
  go_wp2_with fail
  refine (status_calls HS.out).mono ?_
  rintro e w5 ⟨rfl, hg⟩
  have hga := (Keep.refl NoB w5).alloc (.cells #[.int .i64 d1.phase, .int .u16 d1.err, .int .i64 (cntB d1.acked (pagesN d1.sz) d1.ch.length : Nat), .int .i64 d1.ch.length] 48)
  have HST := Lib.hid (heap_alloc_new w5 (.cells #[.int .i64 d1.phase, .int .u16 d1.err, .int .i64 (cntB d1.acked (pagesN d1.sz) d1.ch.length : Nat), .int .i64 d1.ch.length] 48))
  have HZ5 : Hid (W.heap.size < w5.heap.size) := Lib.hid (Nat.lt_of_lt_of_le HZ1.out hg.size)
  replace HG := Lib.hid (HG.out.grow (hg.grow hga))
  replace HS := Lib.hid (HS.out.grow (hg.grow hga))
  replace HCB := Lib.hid (Grow.heap (hg.grow hga) HCB.out)
  clear hg hga HZ1
  go_wp2_with fail
  revert HST HG HS HCB
  generalize w5.alloc (.cells #[.int .i64 d1.phase, .int .u16 d1.err, .int .i64 (cntB d1.acked (pagesN d1.sz) d1.ch.length : Nat), .int .i64 d1.ch.length] 48) = w6
  intro HST HG HS HCB
  refine (waits_calls HS.out).mono ?_
  rintro e w7 ⟨rfl, rfl⟩
  have hw1 : IntKind.i64.wrap (1 + n % 8) = 1 + n % 8 := IntWalk.i64_in _ (by omega)
  have hb81 : 0 ≤ n % 8 := by omega
  have hb82 : n % 8 ≤ 7 := by omega
  have hfz : ∀ o, w6.frozen? ⟨W.heap.size, o, none⟩ = false := fun o => frozen0 o HCB.out
  rcases Decidable.em (gs = session) with hq | hq <;> rcases Decidable.em (0 < n % 3) with hm | hm
  · -- session the same, kind set
    obtain ⟨z0, z1, z2, z3, z4, z5, z6, zf⟩ := cells7 HCB.out
    have hqq : (gs == session) = true := beq_iff_eq.2 hq
    have hK6 : Keep (fun q => q = W.heap.size) w6 ((w6.setCell ⟨W.heap.size, 1, none⟩ (.int .u64 (IntKind.u64.wrap (gs + 1)))).setCell ⟨W.heap.size, 0, none⟩ (.int .i64 (1 + n % 8))) := (((Keep.refl (fun q => q = W.heap.size) w6).setCell (p := ⟨W.heap.size, 1, none⟩) (.inl rfl) _).setCell (p := ⟨W.heap.size, 0, none⟩) (.inl rfl) _)
    have hC6 : ((w6.setCell ⟨W.heap.size, 1, none⟩ (.int .u64 (IntKind.u64.wrap (gs + 1)))).setCell ⟨W.heap.size, 0, none⟩ (.int .i64 (1 + n % 8))).heap[W.heap.size]? = some (.cells #[.int .i64 (1 + n % 8), .int .u64 (IntKind.u64.wrap (gs + 1)), .int .i64 gi, .int .i64 go, .int .u32 (sum : Nat), .slice A1 n1 c1, .slice A2 n2 c2] 46 (0, 0)) := by
      simp only [World.setCell, Array.getElem?_modify]
      simp [HCB.out]
    have hne6 : (IntKind.u64.wrap (gs + 1)) ≠ session := by rw [← hq]; exact next_ne gs HGS.out.1 HGS.out.2
    have hS6 := HS.out.keep hK6 (fun k hk e => HNS.out (e ▸ hk)) (fun k hk e => HGN.out (e ▸ hk))
    have hT6 := (hK6.block w5.heap.size (Array.getElem?_eq_some_iff.1 HST.out).1 (by have := HZ5.out; omega)).trans HST.out
    have hG6 : Grow W ((w6.setCell ⟨W.heap.size, 1, none⟩ (.int .u64 (IntKind.u64.wrap (gs + 1)))).setCell ⟨W.heap.size, 0, none⟩ (.int .i64 (1 + n % 8))) := ((HG.out.mono (T := fun q => q = W.heap.size) (fun _ h => h.elim)).trans hK6 (fun i hi => .inl hi)).new (fun q hq => by omega)
    replace HG := Lib.hid hG6
    replace HS := Lib.hid hS6
    have HC := Lib.hid hC6
    replace HST := Lib.hid hT6
    have HNE := Lib.hid hne6
    clear hG6 hS6 hC6 hT6 hne6 hK6 hq HCB
    go_wp2_with fail
    revert HG HS HC HST HNE
    generalize ((w6.setCell ⟨W.heap.size, 1, none⟩ (.int .u64 (IntKind.u64.wrap (gs + 1)))).setCell ⟨W.heap.size, 0, none⟩ (.int .i64 (1 + n % 8))) = w7
    generalize (1 + n % 8) = kk
    generalize (IntKind.u64.wrap (gs + 1)) = gg
    intro HG HS HC HST HNE
    clear hqq z0 z1 z2 z3 z4 z5 z6 zf
    rw [← HSS.out] at HNE
    obtain ⟨z0, z1, z2, z3, z4, z5, z6, zf⟩ := cells7 HC.out
    by_cases h4 : kk = 4
    · subst h4
      refine (take_reject HS.out gg gi go sum HNE.out A1 A2 n1 c1 n2 c2).mono ?_
      rintro e w8 ⟨b, rfl, hO, hg, hb⟩
      replace HG := Lib.hid (HG.out.grow hg)
      replace HS := Lib.hid (HS.out.grow hg)
      replace HC := Lib.hid (Grow.heap hg HC.out)
      replace HST := Lib.hid (Grow.heap hg HST.out)
      have HO := Lib.hid hO
      clear hO hg hb z0 z1 z2 z3 z4 z5 z6 zf
      obtain ⟨z0, z1, z2, z3, z4, z5, z6, zf⟩ := cells7 HC.out
      go_wp2
      refine region_ord [0, 1, 2, 3, 4, 5, 6, 7, 8, 9, 10, 11, 12, 13, 14, 15, 16, 17, 18, 19, 20, 21, 22, 23, 24, 25, 26, 27, 28, 29, 30, 31, 32, 33, 34, 35, 36, 37, 38, 39, 41, 40, 42, 43, 44] [0, 40, 44] [10, 17, 24, 26, 33, 35, 41] [] rfl (by kernel_rfl) ?_
      refine ord_call rfl rfl rfl rfl rfl Tryz.func13 rfl rfl [] rfl ?_
      refine (known_true _).mono ?_
      rintro e w9 ⟨rfl, hg9⟩
      have hg8 := (Keep.refl NoB w8).drew.grow hg9
      refine ⟨_, rfl, fun _ => hg9, ?_⟩
      replace HG := Lib.hid (HG.out.grow hg8)
      replace HS := Lib.hid (HS.out.grow hg8)
      replace HC := Lib.hid (Grow.heap hg8 HC.out)
      replace HST := Lib.hid (Grow.heap hg8 HST.out)
      replace HO := Lib.hid (Grow.heap hg8 HO.out)
      clear hg8 hg9 z0 z1 z2 z3 z4 z5 z6 zf
      obtain ⟨z0, z1, z2, z3, z4, z5, z6, zf⟩ := cells7 HC.out
      obtain ⟨b0, b1, b2, b3, b4, b5, b6, bf⟩ := cells7 HO.out
      simp only [Act.put, List.setIfInBounds_toArray, List.set_cons_zero, List.set_cons_succ]
      refine ord_pure rfl rfl rfl rfl rfl (fun _ _ _ _ h => h) ?_ ?_ ?_ ?_ ?_
      rotate_left 2
      · intro w'; go_simp; with_reducible rfl
      · simp only [Act.put, List.setIfInBounds_toArray, List.set_cons_zero, List.set_cons_succ]; rfl
      iterate 3
        refine ord_pureG rfl rfl rfl rfl rfl (fun _ _ _ _ h => h) ?_ ?_ ?_ ?_ ?_
        rotate_left 2
        · intro w'; go_simp; with_reducible rfl
        · simp only [Act.put, List.setIfInBounds_toArray, List.set_cons_zero, List.set_cons_succ]; rfl
      iterate 2
        refine ord_pure rfl rfl rfl rfl rfl (fun _ _ _ _ h => h) ?_ ?_ ?_ ?_ ?_
        rotate_left 2
        · intro w'; go_simp; with_reducible rfl
        · simp only [Act.put, List.setIfInBounds_toArray, List.set_cons_zero, List.set_cons_succ]; rfl
      iterate 3
        refine ord_pureG rfl rfl rfl rfl rfl (fun _ _ _ _ h => h) ?_ ?_ ?_ ?_ ?_
        rotate_left 2
        · intro w'; go_simp; with_reducible rfl
        · simp only [Act.put, List.setIfInBounds_toArray, List.set_cons_zero, List.set_cons_succ]; rfl
      refine ord_readG rfl rfl rfl rfl rfl (fun _ _ _ _ h => h) ?_ ?_ ?_ ?_ ?_
      rotate_left 2
      · intro w' hg; have q := hg.cell b0 (fun h => h); go_simp; with_reducible rfl
      · simp only [Act.put, List.setIfInBounds_toArray, List.set_cons_zero, List.set_cons_succ]; rfl
      refine ord_pureG rfl rfl rfl rfl rfl (fun _ _ _ _ h => h) ?_ ?_ ?_ ?_ ?_
      rotate_left 2
      · intro w'; go_simp; with_reducible rfl
      · simp only [Act.put, List.setIfInBounds_toArray, List.set_cons_zero, List.set_cons_succ]; rfl
      iterate 2
        refine ord_pure rfl rfl rfl rfl rfl (fun _ _ _ _ h => h) ?_ ?_ ?_ ?_ ?_
        rotate_left 2
        · intro w'; go_simp; with_reducible rfl
        · simp only [Act.put, List.setIfInBounds_toArray, List.set_cons_zero, List.set_cons_succ]; rfl
      iterate 3
        refine ord_pureG rfl rfl rfl rfl rfl (fun _ _ _ _ h => h) ?_ ?_ ?_ ?_ ?_
        rotate_left 2
        · intro w'; go_simp; with_reducible rfl
        · simp only [Act.put, List.setIfInBounds_toArray, List.set_cons_zero, List.set_cons_succ]; rfl
      refine ord_readG rfl rfl rfl rfl rfl (fun _ _ _ _ h => h) ?_ ?_ ?_ ?_ ?_
      rotate_left 2
      · intro w' hg; have q := hg.cell b2 (fun h => h); go_simp; with_reducible rfl
      · simp only [Act.put, List.setIfInBounds_toArray, List.set_cons_zero, List.set_cons_succ]; rfl
      refine ord_pureG rfl rfl rfl rfl rfl (fun _ _ _ _ h => h) ?_ ?_ ?_ ?_ ?_
      rotate_left 2
      · intro w'; go_simp; with_reducible rfl
      · simp only [Act.put, List.setIfInBounds_toArray, List.set_cons_zero, List.set_cons_succ]; rfl
      iterate 2
        refine ord_pure rfl rfl rfl rfl rfl (fun _ _ _ _ h => h) ?_ ?_ ?_ ?_ ?_
        rotate_left 2
        · intro w'; go_simp; with_reducible rfl
        · simp only [Act.put, List.setIfInBounds_toArray, List.set_cons_zero, List.set_cons_succ]; rfl
      iterate 3
        refine ord_pureG rfl rfl rfl rfl rfl (fun _ _ _ _ h => h) ?_ ?_ ?_ ?_ ?_
        rotate_left 2
        · intro w'; go_simp; with_reducible rfl
        · simp only [Act.put, List.setIfInBounds_toArray, List.set_cons_zero, List.set_cons_succ]; rfl
      refine ord_readG rfl rfl rfl rfl rfl (fun _ _ _ _ h => h) ?_ ?_ ?_ ?_ ?_
      rotate_left 2
      · intro w' hg; have q := hg.cell b1 (fun h => h); go_simp; with_reducible rfl
      · simp only [Act.put, List.setIfInBounds_toArray, List.set_cons_zero, List.set_cons_succ]; rfl
      refine ord_pureG rfl rfl rfl rfl rfl (fun _ _ _ _ h => h) ?_ ?_ ?_ ?_ ?_
      rotate_left 2
      · intro w'; go_simp; with_reducible rfl
      · simp only [Act.put, List.setIfInBounds_toArray, List.set_cons_zero, List.set_cons_succ]; rfl
      refine ord_readG rfl rfl rfl rfl rfl (fun _ _ _ _ h => h) ?_ ?_ ?_ ?_ ?_
      rotate_left 2
      · intro w' hg; have q := hg.cell z1 (fun h => h); go_simp; with_reducible rfl
      · simp only [Act.put, List.setIfInBounds_toArray, List.set_cons_zero, List.set_cons_succ]; rfl
      refine ord_pureG rfl rfl rfl rfl rfl (fun _ _ _ _ h => h) ?_ ?_ ?_ ?_ ?_
      rotate_left 2
      · intro w'; go_simp; with_reducible rfl
      · simp only [Act.put, List.setIfInBounds_toArray, List.set_cons_zero, List.set_cons_succ]; rfl
      iterate 2
        refine ord_pure rfl rfl rfl rfl rfl (fun _ _ _ _ h => h) ?_ ?_ ?_ ?_ ?_
        rotate_left 2
        · intro w'; go_simp; with_reducible rfl
        · simp only [Act.put, List.setIfInBounds_toArray, List.set_cons_zero, List.set_cons_succ]; rfl
      iterate 3
        refine ord_pureG rfl rfl rfl rfl rfl (fun _ _ _ _ h => h) ?_ ?_ ?_ ?_ ?_
        rotate_left 2
        · intro w'; go_simp; with_reducible rfl
        · simp only [Act.put, List.setIfInBounds_toArray, List.set_cons_zero, List.set_cons_succ]; rfl
      refine ord_readG rfl rfl rfl rfl rfl (fun _ _ _ _ h => h) ?_ ?_ ?_ ?_ ?_
      rotate_left 2
      · intro w' hg; have q := hg.cell b4 (fun h => h); go_simp; with_reducible rfl
      · simp only [Act.put, List.setIfInBounds_toArray, List.set_cons_zero, List.set_cons_succ]; rfl
      refine ord_pureG rfl rfl rfl rfl rfl (fun _ _ _ _ h => h) ?_ ?_ ?_ ?_ ?_
      rotate_left 2
      · intro w'; go_simp; with_reducible rfl
      · simp only [Act.put, List.setIfInBounds_toArray, List.set_cons_zero, List.set_cons_succ]; rfl
      refine ord_readG rfl rfl rfl rfl rfl (fun _ _ _ _ h => h) ?_ ?_ ?_ ?_ ?_
      rotate_left 2
      · intro w' hg; have q := hg.cell z4 (fun h => h); go_simp; with_reducible rfl
      · simp only [Act.put, List.setIfInBounds_toArray, List.set_cons_zero, List.set_cons_succ]; rfl
      refine ord_pureG rfl rfl rfl rfl rfl (fun _ _ _ _ h => h) ?_ ?_ ?_ ?_ ?_
      rotate_left 2
      · intro w'; go_simp; with_reducible rfl
      · simp only [Act.put, List.setIfInBounds_toArray, List.set_cons_zero, List.set_cons_succ]; rfl
      iterate 2
        refine ord_pure rfl rfl rfl rfl rfl (fun _ _ _ _ h => h) ?_ ?_ ?_ ?_ ?_
        rotate_left 2
        · intro w'; go_simp; with_reducible rfl
        · simp only [Act.put, List.setIfInBounds_toArray, List.set_cons_zero, List.set_cons_succ]; rfl
      refine ord_pureG rfl rfl rfl rfl rfl (fun _ _ _ _ h => h) ?_ ?_ ?_ ?_ ?_
      rotate_left 2
      · intro w'; go_simp; with_reducible rfl
      · simp only [Act.put, List.setIfInBounds_toArray, List.set_cons_zero, List.set_cons_succ]; rfl
      have s0 : w9.cell? ⟨w5.heap.size, 0, none⟩ = _ := World.news_of_block HST.out 0 _ rfl
      have s1 : w9.cell? ⟨w5.heap.size, 1, none⟩ = _ := World.news_of_block HST.out 1 _ rfl
      have s2 : w9.cell? ⟨w5.heap.size, 2, none⟩ = _ := World.news_of_block HST.out 2 _ rfl
      have s3 : w9.cell? ⟨w5.heap.size, 3, none⟩ = _ := World.news_of_block HST.out 3 _ rfl
      refine ord_readG rfl rfl rfl rfl rfl (fun _ _ _ _ h => h) ?_ ?_ ?_ ?_ ?_
      rotate_left 2
      · intro w' hg; have q0 := hg.cell s0 (fun h => h); have q1 := hg.cell s1 (fun h => h); have q2 := hg.cell s2 (fun h => h); have q3 := hg.cell s3 (fun h => h); go_simp; with_reducible rfl
      · simp only [Act.put, List.setIfInBounds_toArray, List.set_cons_zero, List.set_cons_succ]; rfl
      clear s0 s1 s2 s3
      refine ord_callG rfl rfl rfl rfl rfl Tryz.func20 rfl rfl [.pointer (some ⟨g, 0, none⟩)] rfl ?_
      refine (status_calls HS.out).mono ?_
      rintro e w10 ⟨rfl, hg10⟩
      refine ⟨_, rfl, fun _ => hg10, ?_⟩
      replace HG := Lib.hid (HG.out.grow hg10)
      replace HST := Lib.hid (Grow.heap hg10 HST.out)
      clear hg10 z0 z1 z2 z3 z4 z5 z6 zf b0 b1 b2 b3 b4 b5 b6 bf
      simp only [Act.put, List.setIfInBounds_toArray, List.set_cons_zero, List.set_cons_succ]
      refine ord_pureG rfl rfl rfl rfl rfl (fun _ _ _ _ h => h) ?_ ?_ ?_ ?_ ?_
      rotate_left 2
      · intro w'; go_simp; with_reducible rfl
      · simp only [Act.put, List.setIfInBounds_toArray, List.set_cons_zero, List.set_cons_succ]; rfl
      refine ord_pure rfl rfl rfl rfl rfl (fun _ _ _ _ h => h) ?_ ?_ ?_ ?_ ?_
      rotate_left 2
      · intro w'; go_simp; with_reducible rfl
      · simp only [Act.put, List.setIfInBounds_toArray, List.set_cons_zero, List.set_cons_succ]; rfl
      refine ord_set rfl rfl rfl rfl ?_ ?_ ?_ ?_ ?_
      rotate_left 2
      · go_simp; with_reducible rfl
      · simp only [Act.put, List.setIfInBounds_toArray, List.set_cons_zero, List.set_cons_succ]; rfl
      refine ord_nil ?_
      go_wp2
      go_ret
      exact ⟨rfl, HG.out⟩
    · have hkb : (kk == 4) = false := by simpa using h4
      refine (take_foreign HS.out kk gg (sum : Nat) gi go h4 HNE.out A1 A2 n1 c1 n2 c2).mono ?_
      rintro e w8 ⟨rfl, hg⟩
      replace HG := Lib.hid (HG.out.grow hg)
      replace HS := Lib.hid (HS.out.grow hg)
      replace HC := Lib.hid (Grow.heap hg HC.out)
      replace HST := Lib.hid (Grow.heap hg HST.out)
      clear hg z0 z1 z2 z3 z4 z5 z6 zf
      obtain ⟨z0, z1, z2, z3, z4, z5, z6, zf⟩ := cells7 HC.out
      go_wp2
      refine region_ord [0, 1, 2, 3, 4, 5, 6, 7, 9, 8, 10, 11, 12, 13, 15, 14, 16, 17, 18] [0, 8, 14, 18] [9] [] rfl (by kernel_rfl) ?_
      refine ord_call rfl rfl rfl rfl rfl Tryz.func13 rfl rfl [] rfl ?_
      refine (known_true _).mono ?_
      rintro e w9 ⟨rfl, hg9⟩
      have hg8 := (Keep.refl NoB w8).drew.grow hg9
      refine ⟨_, rfl, fun _ => hg9, ?_⟩
      replace HG := Lib.hid (HG.out.grow hg8)
      replace HS := Lib.hid (HS.out.grow hg8)
      replace HST := Lib.hid (Grow.heap hg8 HST.out)
      clear hg8 hg9 z0 z1 z2 z3 z4 z5 z6 zf
      simp only [Act.put, List.setIfInBounds_toArray, List.set_cons_zero, List.set_cons_succ]
      refine ord_pure rfl rfl rfl rfl rfl (fun _ _ _ _ h => h) ?_ ?_ ?_ ?_ ?_
      rotate_left 2
      · intro w'; go_simp; with_reducible rfl
      · simp only [Act.put, List.setIfInBounds_toArray, List.set_cons_zero, List.set_cons_succ]; rfl
      iterate 3
        refine ord_pureG rfl rfl rfl rfl rfl (fun _ _ _ _ h => h) ?_ ?_ ?_ ?_ ?_
        rotate_left 2
        · intro w'; go_simp; with_reducible rfl
        · simp only [Act.put, List.setIfInBounds_toArray, List.set_cons_zero, List.set_cons_succ]; rfl
      iterate 2
        refine ord_pure rfl rfl rfl rfl rfl (fun _ _ _ _ h => h) ?_ ?_ ?_ ?_ ?_
        rotate_left 2
        · intro w'; go_simp; with_reducible rfl
        · simp only [Act.put, List.setIfInBounds_toArray, List.set_cons_zero, List.set_cons_succ]; rfl
      refine ord_pureG rfl rfl rfl rfl rfl (fun _ _ _ _ h => h) ?_ ?_ ?_ ?_ ?_
      rotate_left 2
      · intro w'; go_simp; with_reducible rfl
      · simp only [Act.put, List.setIfInBounds_toArray, List.set_cons_zero, List.set_cons_succ]; rfl
      have s0 : w9.cell? ⟨w5.heap.size, 0, none⟩ = _ := World.news_of_block HST.out 0 _ rfl
      have s1 : w9.cell? ⟨w5.heap.size, 1, none⟩ = _ := World.news_of_block HST.out 1 _ rfl
      have s2 : w9.cell? ⟨w5.heap.size, 2, none⟩ = _ := World.news_of_block HST.out 2 _ rfl
      have s3 : w9.cell? ⟨w5.heap.size, 3, none⟩ = _ := World.news_of_block HST.out 3 _ rfl
      refine ord_readG rfl rfl rfl rfl rfl (fun _ _ _ _ h => h) ?_ ?_ ?_ ?_ ?_
      rotate_left 2
      · intro w' hg; have q0 := hg.cell s0 (fun h => h); have q1 := hg.cell s1 (fun h => h); have q2 := hg.cell s2 (fun h => h); have q3 := hg.cell s3 (fun h => h); go_simp; with_reducible rfl
      · simp only [Act.put, List.setIfInBounds_toArray, List.set_cons_zero, List.set_cons_succ]; rfl
      clear s0 s1 s2 s3
      refine ord_callG rfl rfl rfl rfl rfl Tryz.func20 rfl rfl [.pointer (some ⟨g, 0, none⟩)] rfl ?_
      refine (status_calls HS.out).mono ?_
      rintro e w10 ⟨rfl, hg10⟩
      refine ⟨_, rfl, fun _ => hg10, ?_⟩
      replace HG := Lib.hid (HG.out.grow hg10)
      replace HS := Lib.hid (HS.out.grow hg10)
      replace HST := Lib.hid (Grow.heap hg10 HST.out)
      clear hg10
      simp only [Act.put, List.setIfInBounds_toArray, List.set_cons_zero, List.set_cons_succ]
      refine ord_pureG rfl rfl rfl rfl rfl (fun _ _ _ _ h => h) ?_ ?_ ?_ ?_ ?_
      rotate_left 2
      · intro w'; go_simp; with_reducible rfl
      · simp only [Act.put, List.setIfInBounds_toArray, List.set_cons_zero, List.set_cons_succ]; rfl
      iterate 2
        refine ord_pure rfl rfl rfl rfl rfl (fun _ _ _ _ h => h) ?_ ?_ ?_ ?_ ?_
        rotate_left 2
        · intro w'; go_simp; with_reducible rfl
        · simp only [Act.put, List.setIfInBounds_toArray, List.set_cons_zero, List.set_cons_succ]; rfl
      iterate 2
        refine ord_pureG rfl rfl rfl rfl rfl (fun _ _ _ _ h => h) ?_ ?_ ?_ ?_ ?_
        rotate_left 2
        · intro w'; go_simp; with_reducible rfl
        · simp only [Act.put, List.setIfInBounds_toArray, List.set_cons_zero, List.set_cons_succ]; rfl
      refine ord_callG rfl rfl rfl rfl rfl Tryz.func22 rfl rfl [.pointer (some ⟨g, 0, none⟩)] rfl ?_
      refine (waits_calls HS.out).mono ?_
      rintro e w11 ⟨rfl, rfl⟩
      refine ⟨_, rfl, fun _ => Keep.refl _ _, ?_⟩
      simp only [Act.put, List.setIfInBounds_toArray, List.set_cons_zero, List.set_cons_succ]
      refine ord_pureG rfl rfl rfl rfl rfl (fun _ _ _ _ h => h) ?_ ?_ ?_ ?_ ?_
      rotate_left 2
      · intro w'; go_simp; with_reducible rfl
      · simp only [Act.put, List.setIfInBounds_toArray, List.set_cons_zero, List.set_cons_succ]; rfl
      refine ord_pure rfl rfl rfl rfl rfl (fun _ _ _ _ h => h) ?_ ?_ ?_ ?_ ?_
      rotate_left 2
      · intro w'; go_simp; with_reducible rfl
      · simp only [Act.put, List.setIfInBounds_toArray, List.set_cons_zero, List.set_cons_succ]; rfl
      refine ord_set rfl rfl rfl rfl ?_ ?_ ?_ ?_ ?_
      rotate_left 2
      · go_simp; with_reducible rfl
      · simp only [Act.put, List.setIfInBounds_toArray, List.set_cons_zero, List.set_cons_succ]; rfl
      refine ord_nil ?_
      go_wp2
      go_ret
      exact ⟨rfl, HG.out⟩
  · -- session the same, kind as it was
    obtain ⟨z0, z1, z2, z3, z4, z5, z6, zf⟩ := cells7 HCB.out
    have hqq : (gs == session) = true := beq_iff_eq.2 hq
    have hK6 : Keep (fun q => q = W.heap.size) w6 (w6.setCell ⟨W.heap.size, 1, none⟩ (.int .u64 (IntKind.u64.wrap (gs + 1)))) := ((Keep.refl (fun q => q = W.heap.size) w6).setCell (p := ⟨W.heap.size, 1, none⟩) (.inl rfl) _)
    have hC6 : (w6.setCell ⟨W.heap.size, 1, none⟩ (.int .u64 (IntKind.u64.wrap (gs + 1)))).heap[W.heap.size]? = some (.cells #[.int .i64 kind, .int .u64 (IntKind.u64.wrap (gs + 1)), .int .i64 gi, .int .i64 go, .int .u32 (sum : Nat), .slice A1 n1 c1, .slice A2 n2 c2] 46 (0, 0)) := by
      simp only [World.setCell, Array.getElem?_modify]
      simp [HCB.out]
    have hne6 : (IntKind.u64.wrap (gs + 1)) ≠ session := by rw [← hq]; exact next_ne gs HGS.out.1 HGS.out.2
    have hS6 := HS.out.keep hK6 (fun k hk e => HNS.out (e ▸ hk)) (fun k hk e => HGN.out (e ▸ hk))
    have hT6 := (hK6.block w5.heap.size (Array.getElem?_eq_some_iff.1 HST.out).1 (by have := HZ5.out; omega)).trans HST.out
    have hG6 : Grow W (w6.setCell ⟨W.heap.size, 1, none⟩ (.int .u64 (IntKind.u64.wrap (gs + 1)))) := ((HG.out.mono (T := fun q => q = W.heap.size) (fun _ h => h.elim)).trans hK6 (fun i hi => .inl hi)).new (fun q hq => by omega)
    replace HG := Lib.hid hG6
    replace HS := Lib.hid hS6
    have HC := Lib.hid hC6
    replace HST := Lib.hid hT6
    have HNE := Lib.hid hne6
    clear hG6 hS6 hC6 hT6 hne6 hK6 hq HCB
    go_wp2_with fail
    revert HG HS HC HST HNE
    generalize (w6.setCell ⟨W.heap.size, 1, none⟩ (.int .u64 (IntKind.u64.wrap (gs + 1)))) = w7
    obtain ⟨kk, rfl⟩ : ∃ kk, kk = kind := ⟨_, rfl⟩
    generalize (IntKind.u64.wrap (gs + 1)) = gg
    intro HG HS HC HST HNE
    clear hqq z0 z1 z2 z3 z4 z5 z6 zf
    rw [← HSS.out] at HNE
    obtain ⟨z0, z1, z2, z3, z4, z5, z6, zf⟩ := cells7 HC.out
    by_cases h4 : kk = 4
    · subst h4
      refine (take_reject HS.out gg gi go sum HNE.out A1 A2 n1 c1 n2 c2).mono ?_
      rintro e w8 ⟨b, rfl, hO, hg, hb⟩
      replace HG := Lib.hid (HG.out.grow hg)
      replace HS := Lib.hid (HS.out.grow hg)
      replace HC := Lib.hid (Grow.heap hg HC.out)
      replace HST := Lib.hid (Grow.heap hg HST.out)
      have HO := Lib.hid hO
      clear hO hg hb z0 z1 z2 z3 z4 z5 z6 zf
      obtain ⟨z0, z1, z2, z3, z4, z5, z6, zf⟩ := cells7 HC.out
      go_wp2
      refine region_ord [0, 1, 2, 3, 4, 5, 6, 7, 8, 9, 10, 11, 12, 13, 14, 15, 16, 17, 18, 19, 20, 21, 22, 23, 24, 25, 26, 27, 28, 29, 30, 31, 32, 33, 34, 35, 36, 37, 38, 39, 41, 40, 42, 43, 44] [0, 40, 44] [10, 17, 24, 26, 33, 35, 41] [] rfl (by kernel_rfl) ?_
      refine ord_call rfl rfl rfl rfl rfl Tryz.func13 rfl rfl [] rfl ?_
      refine (known_true _).mono ?_
      rintro e w9 ⟨rfl, hg9⟩
      have hg8 := (Keep.refl NoB w8).drew.grow hg9
      refine ⟨_, rfl, fun _ => hg9, ?_⟩
      replace HG := Lib.hid (HG.out.grow hg8)
      replace HS := Lib.hid (HS.out.grow hg8)
      replace HC := Lib.hid (Grow.heap hg8 HC.out)
      replace HST := Lib.hid (Grow.heap hg8 HST.out)
      replace HO := Lib.hid (Grow.heap hg8 HO.out)
      clear hg8 hg9 z0 z1 z2 z3 z4 z5 z6 zf
      obtain ⟨z0, z1, z2, z3, z4, z5, z6, zf⟩ := cells7 HC.out
      obtain ⟨b0, b1, b2, b3, b4, b5, b6, bf⟩ := cells7 HO.out
      simp only [Act.put, List.setIfInBounds_toArray, List.set_cons_zero, List.set_cons_succ]
      refine ord_pure rfl rfl rfl rfl rfl (fun _ _ _ _ h => h) ?_ ?_ ?_ ?_ ?_
      rotate_left 2
      · intro w'; go_simp; with_reducible rfl
      · simp only [Act.put, List.setIfInBounds_toArray, List.set_cons_zero, List.set_cons_succ]; rfl
      iterate 3
        refine ord_pureG rfl rfl rfl rfl rfl (fun _ _ _ _ h => h) ?_ ?_ ?_ ?_ ?_
        rotate_left 2
        · intro w'; go_simp; with_reducible rfl
        · simp only [Act.put, List.setIfInBounds_toArray, List.set_cons_zero, List.set_cons_succ]; rfl
      iterate 2
        refine ord_pure rfl rfl rfl rfl rfl (fun _ _ _ _ h => h) ?_ ?_ ?_ ?_ ?_
        rotate_left 2
        · intro w'; go_simp; with_reducible rfl
        · simp only [Act.put, List.setIfInBounds_toArray, List.set_cons_zero, List.set_cons_succ]; rfl
      iterate 3
        refine ord_pureG rfl rfl rfl rfl rfl (fun _ _ _ _ h => h) ?_ ?_ ?_ ?_ ?_
        rotate_left 2
        · intro w'; go_simp; with_reducible rfl
        · simp only [Act.put, List.setIfInBounds_toArray, List.set_cons_zero, List.set_cons_succ]; rfl
      refine ord_readG rfl rfl rfl rfl rfl (fun _ _ _ _ h => h) ?_ ?_ ?_ ?_ ?_
      rotate_left 2
      · intro w' hg; have q := hg.cell b0 (fun h => h); go_simp; with_reducible rfl
      · simp only [Act.put, List.setIfInBounds_toArray, List.set_cons_zero, List.set_cons_succ]; rfl
      refine ord_pureG rfl rfl rfl rfl rfl (fun _ _ _ _ h => h) ?_ ?_ ?_ ?_ ?_
      rotate_left 2
      · intro w'; go_simp; with_reducible rfl
      · simp only [Act.put, List.setIfInBounds_toArray, List.set_cons_zero, List.set_cons_succ]; rfl
      iterate 2
        refine ord_pure rfl rfl rfl rfl rfl (fun _ _ _ _ h => h) ?_ ?_ ?_ ?_ ?_
        rotate_left 2
        · intro w'; go_simp; with_reducible rfl
        · simp only [Act.put, List.setIfInBounds_toArray, List.set_cons_zero, List.set_cons_succ]; rfl
      iterate 3
        refine ord_pureG rfl rfl rfl rfl rfl (fun _ _ _ _ h => h) ?_ ?_ ?_ ?_ ?_
        rotate_left 2
        · intro w'; go_simp; with_reducible rfl
        · simp only [Act.put, List.setIfInBounds_toArray, List.set_cons_zero, List.set_cons_succ]; rfl
      refine ord_readG rfl rfl rfl rfl rfl (fun _ _ _ _ h => h) ?_ ?_ ?_ ?_ ?_
      rotate_left 2
      · intro w' hg; have q := hg.cell b2 (fun h => h); go_simp; with_reducible rfl
      · simp only [Act.put, List.setIfInBounds_toArray, List.set_cons_zero, List.set_cons_succ]; rfl
      refine ord_pureG rfl rfl rfl rfl rfl (fun _ _ _ _ h => h) ?_ ?_ ?_ ?_ ?_
      rotate_left 2
      · intro w'; go_simp; with_reducible rfl
      · simp only [Act.put, List.setIfInBounds_toArray, List.set_cons_zero, List.set_cons_succ]; rfl
      iterate 2
        refine ord_pure rfl rfl rfl rfl rfl (fun _ _ _ _ h => h) ?_ ?_ ?_ ?_ ?_
        rotate_left 2
        · intro w'; go_simp; with_reducible rfl
        · simp only [Act.put, List.setIfInBounds_toArray, List.set_cons_zero, List.set_cons_succ]; rfl
      iterate 3
        refine ord_pureG rfl rfl rfl rfl rfl (fun _ _ _ _ h => h) ?_ ?_ ?_ ?_ ?_
        rotate_left 2
        · intro w'; go_simp; with_reducible rfl
        · simp only [Act.put, List.setIfInBounds_toArray, List.set_cons_zero, List.set_cons_succ]; rfl
      refine ord_readG rfl rfl rfl rfl rfl (fun _ _ _ _ h => h) ?_ ?_ ?_ ?_ ?_
      rotate_left 2
      · intro w' hg; have q := hg.cell b1 (fun h => h); go_simp; with_reducible rfl
      · simp only [Act.put, List.setIfInBounds_toArray, List.set_cons_zero, List.set_cons_succ]; rfl
      refine ord_pureG rfl rfl rfl rfl rfl (fun _ _ _ _ h => h) ?_ ?_ ?_ ?_ ?_
      rotate_left 2
      · intro w'; go_simp; with_reducible rfl
      · simp only [Act.put, List.setIfInBounds_toArray, List.set_cons_zero, List.set_cons_succ]; rfl
      refine ord_readG rfl rfl rfl rfl rfl (fun _ _ _ _ h => h) ?_ ?_ ?_ ?_ ?_
      rotate_left 2
      · intro w' hg; have q := hg.cell z1 (fun h => h); go_simp; with_reducible rfl
      · simp only [Act.put, List.setIfInBounds_toArray, List.set_cons_zero, List.set_cons_succ]; rfl
      refine ord_pureG rfl rfl rfl rfl rfl (fun _ _ _ _ h => h) ?_ ?_ ?_ ?_ ?_
      rotate_left 2
      · intro w'; go_simp; with_reducible rfl
      · simp only [Act.put, List.setIfInBounds_toArray, List.set_cons_zero, List.set_cons_succ]; rfl
      iterate 2
        refine ord_pure rfl rfl rfl rfl rfl (fun _ _ _ _ h => h) ?_ ?_ ?_ ?_ ?_
        rotate_left 2
        · intro w'; go_simp; with_reducible rfl
        · simp only [Act.put, List.setIfInBounds_toArray, List.set_cons_zero, List.set_cons_succ]; rfl
      iterate 3
        refine ord_pureG rfl rfl rfl rfl rfl (fun _ _ _ _ h => h) ?_ ?_ ?_ ?_ ?_
        rotate_left 2
        · intro w'; go_simp; with_reducible rfl
        · simp only [Act.put, List.setIfInBounds_toArray, List.set_cons_zero, List.set_cons_succ]; rfl
      refine ord_readG rfl rfl rfl rfl rfl (fun _ _ _ _ h => h) ?_ ?_ ?_ ?_ ?_
      rotate_left 2
      · intro w' hg; have q := hg.cell b4 (fun h => h); go_simp; with_reducible rfl
      · simp only [Act.put, List.setIfInBounds_toArray, List.set_cons_zero, List.set_cons_succ]; rfl
      refine ord_pureG rfl rfl rfl rfl rfl (fun _ _ _ _ h => h) ?_ ?_ ?_ ?_ ?_
      rotate_left 2
      · intro w'; go_simp; with_reducible rfl
      · simp only [Act.put, List.setIfInBounds_toArray, List.set_cons_zero, List.set_cons_succ]; rfl
      refine ord_readG rfl rfl rfl rfl rfl (fun _ _ _ _ h => h) ?_ ?_ ?_ ?_ ?_
      rotate_left 2
      · intro w' hg; have q := hg.cell z4 (fun h => h); go_simp; with_reducible rfl
      · simp only [Act.put, List.setIfInBounds_toArray, List.set_cons_zero, List.set_cons_succ]; rfl
      refine ord_pureG rfl rfl rfl rfl rfl (fun _ _ _ _ h => h) ?_ ?_ ?_ ?_ ?_
      rotate_left 2
      · intro w'; go_simp; with_reducible rfl
      · simp only [Act.put, List.setIfInBounds_toArray, List.set_cons_zero, List.set_cons_succ]; rfl
      iterate 2
        refine ord_pure rfl rfl rfl rfl rfl (fun _ _ _ _ h => h) ?_ ?_ ?_ ?_ ?_
        rotate_left 2
        · intro w'; go_simp; with_reducible rfl
        · simp only [Act.put, List.setIfInBounds_toArray, List.set_cons_zero, List.set_cons_succ]; rfl
      refine ord_pureG rfl rfl rfl rfl rfl (fun _ _ _ _ h => h) ?_ ?_ ?_ ?_ ?_
      rotate_left 2
      · intro w'; go_simp; with_reducible rfl
      · simp only [Act.put, List.setIfInBounds_toArray, List.set_cons_zero, List.set_cons_succ]; rfl
      have s0 : w9.cell? ⟨w5.heap.size, 0, none⟩ = _ := World.news_of_block HST.out 0 _ rfl
      have s1 : w9.cell? ⟨w5.heap.size, 1, none⟩ = _ := World.news_of_block HST.out 1 _ rfl
      have s2 : w9.cell? ⟨w5.heap.size, 2, none⟩ = _ := World.news_of_block HST.out 2 _ rfl
      have s3 : w9.cell? ⟨w5.heap.size, 3, none⟩ = _ := World.news_of_block HST.out 3 _ rfl
      refine ord_readG rfl rfl rfl rfl rfl (fun _ _ _ _ h => h) ?_ ?_ ?_ ?_ ?_
      rotate_left 2
      · intro w' hg; have q0 := hg.cell s0 (fun h => h); have q1 := hg.cell s1 (fun h => h); have q2 := hg.cell s2 (fun h => h); have q3 := hg.cell s3 (fun h => h); go_simp; with_reducible rfl
      · simp only [Act.put, List.setIfInBounds_toArray, List.set_cons_zero, List.set_cons_succ]; rfl
      clear s0 s1 s2 s3
      refine ord_callG rfl rfl rfl rfl rfl Tryz.func20 rfl rfl [.pointer (some ⟨g, 0, none⟩)] rfl ?_
      refine (status_calls HS.out).mono ?_
      rintro e w10 ⟨rfl, hg10⟩
      refine ⟨_, rfl, fun _ => hg10, ?_⟩
      replace HG := Lib.hid (HG.out.grow hg10)
      replace HST := Lib.hid (Grow.heap hg10 HST.out)
      clear hg10 z0 z1 z2 z3 z4 z5 z6 zf b0 b1 b2 b3 b4 b5 b6 bf
      simp only [Act.put, List.setIfInBounds_toArray, List.set_cons_zero, List.set_cons_succ]
      refine ord_pureG rfl rfl rfl rfl rfl (fun _ _ _ _ h => h) ?_ ?_ ?_ ?_ ?_
      rotate_left 2
      · intro w'; go_simp; with_reducible rfl
      · simp only [Act.put, List.setIfInBounds_toArray, List.set_cons_zero, List.set_cons_succ]; rfl
      refine ord_pure rfl rfl rfl rfl rfl (fun _ _ _ _ h => h) ?_ ?_ ?_ ?_ ?_
      rotate_left 2
      · intro w'; go_simp; with_reducible rfl
      · simp only [Act.put, List.setIfInBounds_toArray, List.set_cons_zero, List.set_cons_succ]; rfl
      refine ord_set rfl rfl rfl rfl ?_ ?_ ?_ ?_ ?_
      rotate_left 2
      · go_simp; with_reducible rfl
      · simp only [Act.put, List.setIfInBounds_toArray, List.set_cons_zero, List.set_cons_succ]; rfl
      refine ord_nil ?_
      go_wp2
      go_ret
      exact ⟨rfl, HG.out⟩
    · have hkb : (kk == 4) = false := by simpa using h4
      refine (take_foreign HS.out kk gg (sum : Nat) gi go h4 HNE.out A1 A2 n1 c1 n2 c2).mono ?_
      rintro e w8 ⟨rfl, hg⟩
      replace HG := Lib.hid (HG.out.grow hg)
      replace HS := Lib.hid (HS.out.grow hg)
      replace HC := Lib.hid (Grow.heap hg HC.out)
      replace HST := Lib.hid (Grow.heap hg HST.out)
      clear hg z0 z1 z2 z3 z4 z5 z6 zf
      obtain ⟨z0, z1, z2, z3, z4, z5, z6, zf⟩ := cells7 HC.out
      go_wp2
      refine region_ord [0, 1, 2, 3, 4, 5, 6, 7, 9, 8, 10, 11, 12, 13, 15, 14, 16, 17, 18] [0, 8, 14, 18] [9] [] rfl (by kernel_rfl) ?_
      refine ord_call rfl rfl rfl rfl rfl Tryz.func13 rfl rfl [] rfl ?_
      refine (known_true _).mono ?_
      rintro e w9 ⟨rfl, hg9⟩
      have hg8 := (Keep.refl NoB w8).drew.grow hg9
      refine ⟨_, rfl, fun _ => hg9, ?_⟩
      replace HG := Lib.hid (HG.out.grow hg8)
      replace HS := Lib.hid (HS.out.grow hg8)
      replace HST := Lib.hid (Grow.heap hg8 HST.out)
      clear hg8 hg9 z0 z1 z2 z3 z4 z5 z6 zf
      simp only [Act.put, List.setIfInBounds_toArray, List.set_cons_zero, List.set_cons_succ]
      refine ord_pure rfl rfl rfl rfl rfl (fun _ _ _ _ h => h) ?_ ?_ ?_ ?_ ?_
      rotate_left 2
      · intro w'; go_simp; with_reducible rfl
      · simp only [Act.put, List.setIfInBounds_toArray, List.set_cons_zero, List.set_cons_succ]; rfl
      iterate 3
        refine ord_pureG rfl rfl rfl rfl rfl (fun _ _ _ _ h => h) ?_ ?_ ?_ ?_ ?_
        rotate_left 2
        · intro w'; go_simp; with_reducible rfl
        · simp only [Act.put, List.setIfInBounds_toArray, List.set_cons_zero, List.set_cons_succ]; rfl
      iterate 2
        refine ord_pure rfl rfl rfl rfl rfl (fun _ _ _ _ h => h) ?_ ?_ ?_ ?_ ?_
        rotate_left 2
        · intro w'; go_simp; with_reducible rfl
        · simp only [Act.put, List.setIfInBounds_toArray, List.set_cons_zero, List.set_cons_succ]; rfl
      refine ord_pureG rfl rfl rfl rfl rfl (fun _ _ _ _ h => h) ?_ ?_ ?_ ?_ ?_
      rotate_left 2
      · intro w'; go_simp; with_reducible rfl
      · simp only [Act.put, List.setIfInBounds_toArray, List.set_cons_zero, List.set_cons_succ]; rfl
      have s0 : w9.cell? ⟨w5.heap.size, 0, none⟩ = _ := World.news_of_block HST.out 0 _ rfl
      have s1 : w9.cell? ⟨w5.heap.size, 1, none⟩ = _ := World.news_of_block HST.out 1 _ rfl
      have s2 : w9.cell? ⟨w5.heap.size, 2, none⟩ = _ := World.news_of_block HST.out 2 _ rfl
      have s3 : w9.cell? ⟨w5.heap.size, 3, none⟩ = _ := World.news_of_block HST.out 3 _ rfl
      refine ord_readG rfl rfl rfl rfl rfl (fun _ _ _ _ h => h) ?_ ?_ ?_ ?_ ?_
      rotate_left 2
      · intro w' hg; have q0 := hg.cell s0 (fun h => h); have q1 := hg.cell s1 (fun h => h); have q2 := hg.cell s2 (fun h => h); have q3 := hg.cell s3 (fun h => h); go_simp; with_reducible rfl
      · simp only [Act.put, List.setIfInBounds_toArray, List.set_cons_zero, List.set_cons_succ]; rfl
      clear s0 s1 s2 s3
      refine ord_callG rfl rfl rfl rfl rfl Tryz.func20 rfl rfl [.pointer (some ⟨g, 0, none⟩)] rfl ?_
      refine (status_calls HS.out).mono ?_
      rintro e w10 ⟨rfl, hg10⟩
      refine ⟨_, rfl, fun _ => hg10, ?_⟩
      replace HG := Lib.hid (HG.out.grow hg10)
      replace HS := Lib.hid (HS.out.grow hg10)
      replace HST := Lib.hid (Grow.heap hg10 HST.out)
      clear hg10
      simp only [Act.put, List.setIfInBounds_toArray, List.set_cons_zero, List.set_cons_succ]
      refine ord_pureG rfl rfl rfl rfl rfl (fun _ _ _ _ h => h) ?_ ?_ ?_ ?_ ?_
      rotate_left 2
      · intro w'; go_simp; with_reducible rfl
      · simp only [Act.put, List.setIfInBounds_toArray, List.set_cons_zero, List.set_cons_succ]; rfl
      iterate 2
        refine ord_pure rfl rfl rfl rfl rfl (fun _ _ _ _ h => h) ?_ ?_ ?_ ?_ ?_
        rotate_left 2
        · intro w'; go_simp; with_reducible rfl
        · simp only [Act.put, List.setIfInBounds_toArray, List.set_cons_zero, List.set_cons_succ]; rfl
      iterate 2
        refine ord_pureG rfl rfl rfl rfl rfl (fun _ _ _ _ h => h) ?_ ?_ ?_ ?_ ?_
        rotate_left 2
        · intro w'; go_simp; with_reducible rfl
        · simp only [Act.put, List.setIfInBounds_toArray, List.set_cons_zero, List.set_cons_succ]; rfl
      refine ord_callG rfl rfl rfl rfl rfl Tryz.func22 rfl rfl [.pointer (some ⟨g, 0, none⟩)] rfl ?_
      refine (waits_calls HS.out).mono ?_
      rintro e w11 ⟨rfl, rfl⟩
      refine ⟨_, rfl, fun _ => Keep.refl _ _, ?_⟩
      simp only [Act.put, List.setIfInBounds_toArray, List.set_cons_zero, List.set_cons_succ]
      refine ord_pureG rfl rfl rfl rfl rfl (fun _ _ _ _ h => h) ?_ ?_ ?_ ?_ ?_
      rotate_left 2
      · intro w'; go_simp; with_reducible rfl
      · simp only [Act.put, List.setIfInBounds_toArray, List.set_cons_zero, List.set_cons_succ]; rfl
      refine ord_pure rfl rfl rfl rfl rfl (fun _ _ _ _ h => h) ?_ ?_ ?_ ?_ ?_
      rotate_left 2
      · intro w'; go_simp; with_reducible rfl
      · simp only [Act.put, List.setIfInBounds_toArray, List.set_cons_zero, List.set_cons_succ]; rfl
      refine ord_set rfl rfl rfl rfl ?_ ?_ ?_ ?_ ?_
      rotate_left 2
      · go_simp; with_reducible rfl
      · simp only [Act.put, List.setIfInBounds_toArray, List.set_cons_zero, List.set_cons_succ]; rfl
      refine ord_nil ?_
      go_wp2
      go_ret
      exact ⟨rfl, HG.out⟩
  · -- session another, kind set
    obtain ⟨z0, z1, z2, z3, z4, z5, z6, zf⟩ := cells7 HCB.out
    have hqq : (gs == session) = false := beq_eq_false_iff_ne.2 hq
    have hK6 : Keep (fun q => q = W.heap.size) w6 (w6.setCell ⟨W.heap.size, 0, none⟩ (.int .i64 (1 + n % 8))) := ((Keep.refl (fun q => q = W.heap.size) w6).setCell (p := ⟨W.heap.size, 0, none⟩) (.inl rfl) _)
    have hC6 : (w6.setCell ⟨W.heap.size, 0, none⟩ (.int .i64 (1 + n % 8))).heap[W.heap.size]? = some (.cells #[.int .i64 (1 + n % 8), .int .u64 gs, .int .i64 gi, .int .i64 go, .int .u32 (sum : Nat), .slice A1 n1 c1, .slice A2 n2 c2] 46 (0, 0)) := by
      simp only [World.setCell, Array.getElem?_modify]
      simp [HCB.out]
    have hne6 : gs ≠ session := hq
    have hS6 := HS.out.keep hK6 (fun k hk e => HNS.out (e ▸ hk)) (fun k hk e => HGN.out (e ▸ hk))
    have hT6 := (hK6.block w5.heap.size (Array.getElem?_eq_some_iff.1 HST.out).1 (by have := HZ5.out; omega)).trans HST.out
    have hG6 : Grow W (w6.setCell ⟨W.heap.size, 0, none⟩ (.int .i64 (1 + n % 8))) := ((HG.out.mono (T := fun q => q = W.heap.size) (fun _ h => h.elim)).trans hK6 (fun i hi => .inl hi)).new (fun q hq => by omega)
    replace HG := Lib.hid hG6
    replace HS := Lib.hid hS6
    have HC := Lib.hid hC6
    replace HST := Lib.hid hT6
    have HNE := Lib.hid hne6
    clear hG6 hS6 hC6 hT6 hne6 hK6 hq HCB
    go_wp2_with fail
    revert HG HS HC HST HNE
    generalize (w6.setCell ⟨W.heap.size, 0, none⟩ (.int .i64 (1 + n % 8))) = w7
    generalize (1 + n % 8) = kk
    obtain ⟨gg, rfl⟩ : ∃ gg, gg = gs := ⟨_, rfl⟩
    intro HG HS HC HST HNE
    clear hqq z0 z1 z2 z3 z4 z5 z6 zf
    rw [← HSS.out] at HNE
    obtain ⟨z0, z1, z2, z3, z4, z5, z6, zf⟩ := cells7 HC.out
    by_cases h4 : kk = 4
    · subst h4
      refine (take_reject HS.out gg gi go sum HNE.out A1 A2 n1 c1 n2 c2).mono ?_
      rintro e w8 ⟨b, rfl, hO, hg, hb⟩
      replace HG := Lib.hid (HG.out.grow hg)
      replace HS := Lib.hid (HS.out.grow hg)
      replace HC := Lib.hid (Grow.heap hg HC.out)
      replace HST := Lib.hid (Grow.heap hg HST.out)
      have HO := Lib.hid hO
      clear hO hg hb z0 z1 z2 z3 z4 z5 z6 zf
      obtain ⟨z0, z1, z2, z3, z4, z5, z6, zf⟩ := cells7 HC.out
      go_wp2
      refine region_ord [0, 1, 2, 3, 4, 5, 6, 7, 8, 9, 10, 11, 12, 13, 14, 15, 16, 17, 18, 19, 20, 21, 22, 23, 24, 25, 26, 27, 28, 29, 30, 31, 32, 33, 34, 35, 36, 37, 38, 39, 41, 40, 42, 43, 44] [0, 40, 44] [10, 17, 24, 26, 33, 35, 41] [] rfl (by kernel_rfl) ?_
      refine ord_call rfl rfl rfl rfl rfl Tryz.func13 rfl rfl [] rfl ?_
      refine (known_true _).mono ?_
      rintro e w9 ⟨rfl, hg9⟩
      have hg8 := (Keep.refl NoB w8).drew.grow hg9
      refine ⟨_, rfl, fun _ => hg9, ?_⟩
      replace HG := Lib.hid (HG.out.grow hg8)
      replace HS := Lib.hid (HS.out.grow hg8)
      replace HC := Lib.hid (Grow.heap hg8 HC.out)
      replace HST := Lib.hid (Grow.heap hg8 HST.out)
      replace HO := Lib.hid (Grow.heap hg8 HO.out)
      clear hg8 hg9 z0 z1 z2 z3 z4 z5 z6 zf
      obtain ⟨z0, z1, z2, z3, z4, z5, z6, zf⟩ := cells7 HC.out
      obtain ⟨b0, b1, b2, b3, b4, b5, b6, bf⟩ := cells7 HO.out
      simp only [Act.put, List.setIfInBounds_toArray, List.set_cons_zero, List.set_cons_succ]
      refine ord_pure rfl rfl rfl rfl rfl (fun _ _ _ _ h => h) ?_ ?_ ?_ ?_ ?_
      rotate_left 2
      · intro w'; go_simp; with_reducible rfl
      · simp only [Act.put, List.setIfInBounds_toArray, List.set_cons_zero, List.set_cons_succ]; rfl
      iterate 3
        refine ord_pureG rfl rfl rfl rfl rfl (fun _ _ _ _ h => h) ?_ ?_ ?_ ?_ ?_
        rotate_left 2
        · intro w'; go_simp; with_reducible rfl
        · simp only [Act.put, List.setIfInBounds_toArray, List.set_cons_zero, List.set_cons_succ]; rfl
      iterate 2
        refine ord_pure rfl rfl rfl rfl rfl (fun _ _ _ _ h => h) ?_ ?_ ?_ ?_ ?_
        rotate_left 2
        · intro w'; go_simp; with_reducible rfl
        · simp only [Act.put, List.setIfInBounds_toArray, List.set_cons_zero, List.set_cons_succ]; rfl
      iterate 3
        refine ord_pureG rfl rfl rfl rfl rfl (fun _ _ _ _ h => h) ?_ ?_ ?_ ?_ ?_
        rotate_left 2
        · intro w'; go_simp; with_reducible rfl
        · simp only [Act.put, List.setIfInBounds_toArray, List.set_cons_zero, List.set_cons_succ]; rfl
      refine ord_readG rfl rfl rfl rfl rfl (fun _ _ _ _ h => h) ?_ ?_ ?_ ?_ ?_
      rotate_left 2
      · intro w' hg; have q := hg.cell b0 (fun h => h); go_simp; with_reducible rfl
      · simp only [Act.put, List.setIfInBounds_toArray, List.set_cons_zero, List.set_cons_succ]; rfl
      refine ord_pureG rfl rfl rfl rfl rfl (fun _ _ _ _ h => h) ?_ ?_ ?_ ?_ ?_
      rotate_left 2
      · intro w'; go_simp; with_reducible rfl
      · simp only [Act.put, List.setIfInBounds_toArray, List.set_cons_zero, List.set_cons_succ]; rfl
      iterate 2
        refine ord_pure rfl rfl rfl rfl rfl (fun _ _ _ _ h => h) ?_ ?_ ?_ ?_ ?_
        rotate_left 2
        · intro w'; go_simp; with_reducible rfl
        · simp only [Act.put, List.setIfInBounds_toArray, List.set_cons_zero, List.set_cons_succ]; rfl
      iterate 3
        refine ord_pureG rfl rfl rfl rfl rfl (fun _ _ _ _ h => h) ?_ ?_ ?_ ?_ ?_
        rotate_left 2
        · intro w'; go_simp; with_reducible rfl
        · simp only [Act.put, List.setIfInBounds_toArray, List.set_cons_zero, List.set_cons_succ]; rfl
      refine ord_readG rfl rfl rfl rfl rfl (fun _ _ _ _ h => h) ?_ ?_ ?_ ?_ ?_
      rotate_left 2
      · intro w' hg; have q := hg.cell b2 (fun h => h); go_simp; with_reducible rfl
      · simp only [Act.put, List.setIfInBounds_toArray, List.set_cons_zero, List.set_cons_succ]; rfl
      refine ord_pureG rfl rfl rfl rfl rfl (fun _ _ _ _ h => h) ?_ ?_ ?_ ?_ ?_
      rotate_left 2
      · intro w'; go_simp; with_reducible rfl
      · simp only [Act.put, List.setIfInBounds_toArray, List.set_cons_zero, List.set_cons_succ]; rfl
      iterate 2
        refine ord_pure rfl rfl rfl rfl rfl (fun _ _ _ _ h => h) ?_ ?_ ?_ ?_ ?_
        rotate_left 2
        · intro w'; go_simp; with_reducible rfl
        · simp only [Act.put, List.setIfInBounds_toArray, List.set_cons_zero, List.set_cons_succ]; rfl
      iterate 3
        refine ord_pureG rfl rfl rfl rfl rfl (fun _ _ _ _ h => h) ?_ ?_ ?_ ?_ ?_
        rotate_left 2
        · intro w'; go_simp; with_reducible rfl
        · simp only [Act.put, List.setIfInBounds_toArray, List.set_cons_zero, List.set_cons_succ]; rfl
      refine ord_readG rfl rfl rfl rfl rfl (fun _ _ _ _ h => h) ?_ ?_ ?_ ?_ ?_
      rotate_left 2
      · intro w' hg; have q := hg.cell b1 (fun h => h); go_simp; with_reducible rfl
      · simp only [Act.put, List.setIfInBounds_toArray, List.set_cons_zero, List.set_cons_succ]; rfl
      refine ord_pureG rfl rfl rfl rfl rfl (fun _ _ _ _ h => h) ?_ ?_ ?_ ?_ ?_
      rotate_left 2
      · intro w'; go_simp; with_reducible rfl
      · simp only [Act.put, List.setIfInBounds_toArray, List.set_cons_zero, List.set_cons_succ]; rfl
      refine ord_readG rfl rfl rfl rfl rfl (fun _ _ _ _ h => h) ?_ ?_ ?_ ?_ ?_
      rotate_left 2
      · intro w' hg; have q := hg.cell z1 (fun h => h); go_simp; with_reducible rfl
      · simp only [Act.put, List.setIfInBounds_toArray, List.set_cons_zero, List.set_cons_succ]; rfl
      refine ord_pureG rfl rfl rfl rfl rfl (fun _ _ _ _ h => h) ?_ ?_ ?_ ?_ ?_
      rotate_left 2
      · intro w'; go_simp; with_reducible rfl
      · simp only [Act.put, List.setIfInBounds_toArray, List.set_cons_zero, List.set_cons_succ]; rfl
      iterate 2
        refine ord_pure rfl rfl rfl rfl rfl (fun _ _ _ _ h => h) ?_ ?_ ?_ ?_ ?_
        rotate_left 2
        · intro w'; go_simp; with_reducible rfl
        · simp only [Act.put, List.setIfInBounds_toArray, List.set_cons_zero, List.set_cons_succ]; rfl
      iterate 3
        refine ord_pureG rfl rfl rfl rfl rfl (fun _ _ _ _ h => h) ?_ ?_ ?_ ?_ ?_
        rotate_left 2
        · intro w'; go_simp; with_reducible rfl
        · simp only [Act.put, List.setIfInBounds_toArray, List.set_cons_zero, List.set_cons_succ]; rfl
      refine ord_readG rfl rfl rfl rfl rfl (fun _ _ _ _ h => h) ?_ ?_ ?_ ?_ ?_
      rotate_left 2
      · intro w' hg; have q := hg.cell b4 (fun h => h); go_simp; with_reducible rfl
      · simp only [Act.put, List.setIfInBounds_toArray, List.set_cons_zero, List.set_cons_succ]; rfl
      refine ord_pureG rfl rfl rfl rfl rfl (fun _ _ _ _ h => h) ?_ ?_ ?_ ?_ ?_
      rotate_left 2
      · intro w'; go_simp; with_reducible rfl
      · simp only [Act.put, List.setIfInBounds_toArray, List.set_cons_zero, List.set_cons_succ]; rfl
      refine ord_readG rfl rfl rfl rfl rfl (fun _ _ _ _ h => h) ?_ ?_ ?_ ?_ ?_
      rotate_left 2
      · intro w' hg; have q := hg.cell z4 (fun h => h); go_simp; with_reducible rfl
      · simp only [Act.put, List.setIfInBounds_toArray, List.set_cons_zero, List.set_cons_succ]; rfl
      refine ord_pureG rfl rfl rfl rfl rfl (fun _ _ _ _ h => h) ?_ ?_ ?_ ?_ ?_
      rotate_left 2
      · intro w'; go_simp; with_reducible rfl
      · simp only [Act.put, List.setIfInBounds_toArray, List.set_cons_zero, List.set_cons_succ]; rfl
      iterate 2
        refine ord_pure rfl rfl rfl rfl rfl (fun _ _ _ _ h => h) ?_ ?_ ?_ ?_ ?_
        rotate_left 2
        · intro w'; go_simp; with_reducible rfl
        · simp only [Act.put, List.setIfInBounds_toArray, List.set_cons_zero, List.set_cons_succ]; rfl
      refine ord_pureG rfl rfl rfl rfl rfl (fun _ _ _ _ h => h) ?_ ?_ ?_ ?_ ?_
      rotate_left 2
      · intro w'; go_simp; with_reducible rfl
      · simp only [Act.put, List.setIfInBounds_toArray, List.set_cons_zero, List.set_cons_succ]; rfl
      have s0 : w9.cell? ⟨w5.heap.size, 0, none⟩ = _ := World.news_of_block HST.out 0 _ rfl
      have s1 : w9.cell? ⟨w5.heap.size, 1, none⟩ = _ := World.news_of_block HST.out 1 _ rfl
      have s2 : w9.cell? ⟨w5.heap.size, 2, none⟩ = _ := World.news_of_block HST.out 2 _ rfl
      have s3 : w9.cell? ⟨w5.heap.size, 3, none⟩ = _ := World.news_of_block HST.out 3 _ rfl
      refine ord_readG rfl rfl rfl rfl rfl (fun _ _ _ _ h => h) ?_ ?_ ?_ ?_ ?_
      rotate_left 2
      · intro w' hg; have q0 := hg.cell s0 (fun h => h); have q1 := hg.cell s1 (fun h => h); have q2 := hg.cell s2 (fun h => h); have q3 := hg.cell s3 (fun h => h); go_simp; with_reducible rfl
      · simp only [Act.put, List.setIfInBounds_toArray, List.set_cons_zero, List.set_cons_succ]; rfl
      clear s0 s1 s2 s3
      refine ord_callG rfl rfl rfl rfl rfl Tryz.func20 rfl rfl [.pointer (some ⟨g, 0, none⟩)] rfl ?_
      refine (status_calls HS.out).mono ?_
      rintro e w10 ⟨rfl, hg10⟩
      refine ⟨_, rfl, fun _ => hg10, ?_⟩
      replace HG := Lib.hid (HG.out.grow hg10)
      replace HST := Lib.hid (Grow.heap hg10 HST.out)
      clear hg10 z0 z1 z2 z3 z4 z5 z6 zf b0 b1 b2 b3 b4 b5 b6 bf
      simp only [Act.put, List.setIfInBounds_toArray, List.set_cons_zero, List.set_cons_succ]
      refine ord_pureG rfl rfl rfl rfl rfl (fun _ _ _ _ h => h) ?_ ?_ ?_ ?_ ?_
      rotate_left 2
      · intro w'; go_simp; with_reducible rfl
      · simp only [Act.put, List.setIfInBounds_toArray, List.set_cons_zero, List.set_cons_succ]; rfl
      refine ord_pure rfl rfl rfl rfl rfl (fun _ _ _ _ h => h) ?_ ?_ ?_ ?_ ?_
      rotate_left 2
      · intro w'; go_simp; with_reducible rfl
      · simp only [Act.put, List.setIfInBounds_toArray, List.set_cons_zero, List.set_cons_succ]; rfl
      refine ord_set rfl rfl rfl rfl ?_ ?_ ?_ ?_ ?_
      rotate_left 2
      · go_simp; with_reducible rfl
      · simp only [Act.put, List.setIfInBounds_toArray, List.set_cons_zero, List.set_cons_succ]; rfl
      refine ord_nil ?_
      go_wp2
      go_ret
      exact ⟨rfl, HG.out⟩
    · have hkb : (kk == 4) = false := by simpa using h4
      refine (take_foreign HS.out kk gg (sum : Nat) gi go h4 HNE.out A1 A2 n1 c1 n2 c2).mono ?_
      rintro e w8 ⟨rfl, hg⟩
      replace HG := Lib.hid (HG.out.grow hg)
      replace HS := Lib.hid (HS.out.grow hg)
      replace HC := Lib.hid (Grow.heap hg HC.out)
      replace HST := Lib.hid (Grow.heap hg HST.out)
      clear hg z0 z1 z2 z3 z4 z5 z6 zf
      obtain ⟨z0, z1, z2, z3, z4, z5, z6, zf⟩ := cells7 HC.out
      go_wp2
      refine region_ord [0, 1, 2, 3, 4, 5, 6, 7, 9, 8, 10, 11, 12, 13, 15, 14, 16, 17, 18] [0, 8, 14, 18] [9] [] rfl (by kernel_rfl) ?_
      refine ord_call rfl rfl rfl rfl rfl Tryz.func13 rfl rfl [] rfl ?_
      refine (known_true _).mono ?_
      rintro e w9 ⟨rfl, hg9⟩
      have hg8 := (Keep.refl NoB w8).drew.grow hg9
      refine ⟨_, rfl, fun _ => hg9, ?_⟩
      replace HG := Lib.hid (HG.out.grow hg8)
      replace HS := Lib.hid (HS.out.grow hg8)
      replace HST := Lib.hid (Grow.heap hg8 HST.out)
      clear hg8 hg9 z0 z1 z2 z3 z4 z5 z6 zf
      simp only [Act.put, List.setIfInBounds_toArray, List.set_cons_zero, List.set_cons_succ]
      refine ord_pure rfl rfl rfl rfl rfl (fun _ _ _ _ h => h) ?_ ?_ ?_ ?_ ?_
      rotate_left 2
      · intro w'; go_simp; with_reducible rfl
      · simp only [Act.put, List.setIfInBounds_toArray, List.set_cons_zero, List.set_cons_succ]; rfl
      iterate 3
        refine ord_pureG rfl rfl rfl rfl rfl (fun _ _ _ _ h => h) ?_ ?_ ?_ ?_ ?_
        rotate_left 2
        · intro w'; go_simp; with_reducible rfl
        · simp only [Act.put, List.setIfInBounds_toArray, List.set_cons_zero, List.set_cons_succ]; rfl
      iterate 2
        refine ord_pure rfl rfl rfl rfl rfl (fun _ _ _ _ h => h) ?_ ?_ ?_ ?_ ?_
        rotate_left 2
        · intro w'; go_simp; with_reducible rfl
        · simp only [Act.put, List.setIfInBounds_toArray, List.set_cons_zero, List.set_cons_succ]; rfl
      refine ord_pureG rfl rfl rfl rfl rfl (fun _ _ _ _ h => h) ?_ ?_ ?_ ?_ ?_
      rotate_left 2
      · intro w'; go_simp; with_reducible rfl
      · simp only [Act.put, List.setIfInBounds_toArray, List.set_cons_zero, List.set_cons_succ]; rfl
      have s0 : w9.cell? ⟨w5.heap.size, 0, none⟩ = _ := World.news_of_block HST.out 0 _ rfl
      have s1 : w9.cell? ⟨w5.heap.size, 1, none⟩ = _ := World.news_of_block HST.out 1 _ rfl
      have s2 : w9.cell? ⟨w5.heap.size, 2, none⟩ = _ := World.news_of_block HST.out 2 _ rfl
      have s3 : w9.cell? ⟨w5.heap.size, 3, none⟩ = _ := World.news_of_block HST.out 3 _ rfl
      refine ord_readG rfl rfl rfl rfl rfl (fun _ _ _ _ h => h) ?_ ?_ ?_ ?_ ?_
      rotate_left 2
      · intro w' hg; have q0 := hg.cell s0 (fun h => h); have q1 := hg.cell s1 (fun h => h); have q2 := hg.cell s2 (fun h => h); have q3 := hg.cell s3 (fun h => h); go_simp; with_reducible rfl
      · simp only [Act.put, List.setIfInBounds_toArray, List.set_cons_zero, List.set_cons_succ]; rfl
      clear s0 s1 s2 s3
      refine ord_callG rfl rfl rfl rfl rfl Tryz.func20 rfl rfl [.pointer (some ⟨g, 0, none⟩)] rfl ?_
      refine (status_calls HS.out).mono ?_
      rintro e w10 ⟨rfl, hg10⟩
      refine ⟨_, rfl, fun _ => hg10, ?_⟩
      replace HG := Lib.hid (HG.out.grow hg10)
      replace HS := Lib.hid (HS.out.grow hg10)
      replace HST := Lib.hid (Grow.heap hg10 HST.out)
      clear hg10
      simp only [Act.put, List.setIfInBounds_toArray, List.set_cons_zero, List.set_cons_succ]
      refine ord_pureG rfl rfl rfl rfl rfl (fun _ _ _ _ h => h) ?_ ?_ ?_ ?_ ?_
      rotate_left 2
      · intro w'; go_simp; with_reducible rfl
      · simp only [Act.put, List.setIfInBounds_toArray, List.set_cons_zero, List.set_cons_succ]; rfl
      iterate 2
        refine ord_pure rfl rfl rfl rfl rfl (fun _ _ _ _ h => h) ?_ ?_ ?_ ?_ ?_
        rotate_left 2
        · intro w'; go_simp; with_reducible rfl
        · simp only [Act.put, List.setIfInBounds_toArray, List.set_cons_zero, List.set_cons_succ]; rfl
      iterate 2
        refine ord_pureG rfl rfl rfl rfl rfl (fun _ _ _ _ h => h) ?_ ?_ ?_ ?_ ?_
        rotate_left 2
        · intro w'; go_simp; with_reducible rfl
        · simp only [Act.put, List.setIfInBounds_toArray, List.set_cons_zero, List.set_cons_succ]; rfl
      refine ord_callG rfl rfl rfl rfl rfl Tryz.func22 rfl rfl [.pointer (some ⟨g, 0, none⟩)] rfl ?_
      refine (waits_calls HS.out).mono ?_
      rintro e w11 ⟨rfl, rfl⟩
      refine ⟨_, rfl, fun _ => Keep.refl _ _, ?_⟩
      simp only [Act.put, List.setIfInBounds_toArray, List.set_cons_zero, List.set_cons_succ]
      refine ord_pureG rfl rfl rfl rfl rfl (fun _ _ _ _ h => h) ?_ ?_ ?_ ?_ ?_
      rotate_left 2
      · intro w'; go_simp; with_reducible rfl
      · simp only [Act.put, List.setIfInBounds_toArray, List.set_cons_zero, List.set_cons_succ]; rfl
      refine ord_pure rfl rfl rfl rfl rfl (fun _ _ _ _ h => h) ?_ ?_ ?_ ?_ ?_
      rotate_left 2
      · intro w'; go_simp; with_reducible rfl
      · simp only [Act.put, List.setIfInBounds_toArray, List.set_cons_zero, List.set_cons_succ]; rfl
      refine ord_set rfl rfl rfl rfl ?_ ?_ ?_ ?_ ?_
      rotate_left 2
      · go_simp; with_reducible rfl
      · simp only [Act.put, List.setIfInBounds_toArray, List.set_cons_zero, List.set_cons_succ]; rfl
      refine ord_nil ?_
      go_wp2
      go_ret
      exact ⟨rfl, HG.out⟩
  · -- session another, kind as it was
    obtain ⟨z0, z1, z2, z3, z4, z5, z6, zf⟩ := cells7 HCB.out
    have hqq : (gs == session) = false := beq_eq_false_iff_ne.2 hq
    have hK6 : Keep (fun q => q = W.heap.size) w6 w6 := (Keep.refl (fun q => q = W.heap.size) w6)
    have hC6 : w6.heap[W.heap.size]? = some (.cells #[.int .i64 kind, .int .u64 gs, .int .i64 gi, .int .i64 go, .int .u32 (sum : Nat), .slice A1 n1 c1, .slice A2 n2 c2] 46 (0, 0)) := by
      have h0 := HCB.out
      exact h0
    have hne6 : gs ≠ session := hq
    have hS6 := HS.out.keep hK6 (fun k hk e => HNS.out (e ▸ hk)) (fun k hk e => HGN.out (e ▸ hk))
    have hT6 := (hK6.block w5.heap.size (Array.getElem?_eq_some_iff.1 HST.out).1 (by have := HZ5.out; omega)).trans HST.out
    have hG6 : Grow W w6 := ((HG.out.mono (T := fun q => q = W.heap.size) (fun _ h => h.elim)).trans hK6 (fun i hi => .inl hi)).new (fun q hq => by omega)
    replace HG := Lib.hid hG6
    replace HS := Lib.hid hS6
    have HC := Lib.hid hC6
    replace HST := Lib.hid hT6
    have HNE := Lib.hid hne6
    clear hG6 hS6 hC6 hT6 hne6 hK6 hq HCB
    go_wp2_with fail
    revert HG HS HC HST HNE
    obtain ⟨w7, rfl⟩ : ∃ w7, w7 = w6 := ⟨_, rfl⟩
    obtain ⟨kk, rfl⟩ : ∃ kk, kk = kind := ⟨_, rfl⟩
    obtain ⟨gg, rfl⟩ : ∃ gg, gg = gs := ⟨_, rfl⟩
    intro HG HS HC HST HNE
    clear hqq z0 z1 z2 z3 z4 z5 z6 zf
    rw [← HSS.out] at HNE
    obtain ⟨z0, z1, z2, z3, z4, z5, z6, zf⟩ := cells7 HC.out
    by_cases h4 : kk = 4
    · subst h4
      refine (take_reject HS.out gg gi go sum HNE.out A1 A2 n1 c1 n2 c2).mono ?_
      rintro e w8 ⟨b, rfl, hO, hg, hb⟩
      replace HG := Lib.hid (HG.out.grow hg)
      replace HS := Lib.hid (HS.out.grow hg)
      replace HC := Lib.hid (Grow.heap hg HC.out)
      replace HST := Lib.hid (Grow.heap hg HST.out)
      have HO := Lib.hid hO
      clear hO hg hb z0 z1 z2 z3 z4 z5 z6 zf
      obtain ⟨z0, z1, z2, z3, z4, z5, z6, zf⟩ := cells7 HC.out
      go_wp2
      refine region_ord [0, 1, 2, 3, 4, 5, 6, 7, 8, 9, 10, 11, 12, 13, 14, 15, 16, 17, 18, 19, 20, 21, 22, 23, 24, 25, 26, 27, 28, 29, 30, 31, 32, 33, 34, 35, 36, 37, 38, 39, 41, 40, 42, 43, 44] [0, 40, 44] [10, 17, 24, 26, 33, 35, 41] [] rfl (by kernel_rfl) ?_
      refine ord_call rfl rfl rfl rfl rfl Tryz.func13 rfl rfl [] rfl ?_
      refine (known_true _).mono ?_
      rintro e w9 ⟨rfl, hg9⟩
      have hg8 := (Keep.refl NoB w8).drew.grow hg9
      refine ⟨_, rfl, fun _ => hg9, ?_⟩
      replace HG := Lib.hid (HG.out.grow hg8)
      replace HS := Lib.hid (HS.out.grow hg8)
      replace HC := Lib.hid (Grow.heap hg8 HC.out)
      replace HST := Lib.hid (Grow.heap hg8 HST.out)
      replace HO := Lib.hid (Grow.heap hg8 HO.out)
      clear hg8 hg9 z0 z1 z2 z3 z4 z5 z6 zf
      obtain ⟨z0, z1, z2, z3, z4, z5, z6, zf⟩ := cells7 HC.out
      obtain ⟨b0, b1, b2, b3, b4, b5, b6, bf⟩ := cells7 HO.out
      simp only [Act.put, List.setIfInBounds_toArray, List.set_cons_zero, List.set_cons_succ]
      refine ord_pure rfl rfl rfl rfl rfl (fun _ _ _ _ h => h) ?_ ?_ ?_ ?_ ?_
      rotate_left 2
      · intro w'; go_simp; with_reducible rfl
      · simp only [Act.put, List.setIfInBounds_toArray, List.set_cons_zero, List.set_cons_succ]; rfl
      iterate 3
        refine ord_pureG rfl rfl rfl rfl rfl (fun _ _ _ _ h => h) ?_ ?_ ?_ ?_ ?_
        rotate_left 2
        · intro w'; go_simp; with_reducible rfl
        · simp only [Act.put, List.setIfInBounds_toArray, List.set_cons_zero, List.set_cons_succ]; rfl
      iterate 2
        refine ord_pure rfl rfl rfl rfl rfl (fun _ _ _ _ h => h) ?_ ?_ ?_ ?_ ?_
        rotate_left 2
        · intro w'; go_simp; with_reducible rfl
        · simp only [Act.put, List.setIfInBounds_toArray, List.set_cons_zero, List.set_cons_succ]; rfl
      iterate 3
        refine ord_pureG rfl rfl rfl rfl rfl (fun _ _ _ _ h => h) ?_ ?_ ?_ ?_ ?_
        rotate_left 2
        · intro w'; go_simp; with_reducible rfl
        · simp only [Act.put, List.setIfInBounds_toArray, List.set_cons_zero, List.set_cons_succ]; rfl
      refine ord_readG rfl rfl rfl rfl rfl (fun _ _ _ _ h => h) ?_ ?_ ?_ ?_ ?_
      rotate_left 2
      · intro w' hg; have q := hg.cell b0 (fun h => h); go_simp; with_reducible rfl
      · simp only [Act.put, List.setIfInBounds_toArray, List.set_cons_zero, List.set_cons_succ]; rfl
      refine ord_pureG rfl rfl rfl rfl rfl (fun _ _ _ _ h => h) ?_ ?_ ?_ ?_ ?_
      rotate_left 2
      · intro w'; go_simp; with_reducible rfl
      · simp only [Act.put, List.setIfInBounds_toArray, List.set_cons_zero, List.set_cons_succ]; rfl
      iterate 2
        refine ord_pure rfl rfl rfl rfl rfl (fun _ _ _ _ h => h) ?_ ?_ ?_ ?_ ?_
        rotate_left 2
        · intro w'; go_simp; with_reducible rfl
        · simp only [Act.put, List.setIfInBounds_toArray, List.set_cons_zero, List.set_cons_succ]; rfl
      iterate 3
        refine ord_pureG rfl rfl rfl rfl rfl (fun _ _ _ _ h => h) ?_ ?_ ?_ ?_ ?_
        rotate_left 2
        · intro w'; go_simp; with_reducible rfl
        · simp only [Act.put, List.setIfInBounds_toArray, List.set_cons_zero, List.set_cons_succ]; rfl
      refine ord_readG rfl rfl rfl rfl rfl (fun _ _ _ _ h => h) ?_ ?_ ?_ ?_ ?_
      rotate_left 2
      · intro w' hg; have q := hg.cell b2 (fun h => h); go_simp; with_reducible rfl
      · simp only [Act.put, List.setIfInBounds_toArray, List.set_cons_zero, List.set_cons_succ]; rfl
      refine ord_pureG rfl rfl rfl rfl rfl (fun _ _ _ _ h => h) ?_ ?_ ?_ ?_ ?_
      rotate_left 2
      · intro w'; go_simp; with_reducible rfl
      · simp only [Act.put, List.setIfInBounds_toArray, List.set_cons_zero, List.set_cons_succ]; rfl
      iterate 2
        refine ord_pure rfl rfl rfl rfl rfl (fun _ _ _ _ h => h) ?_ ?_ ?_ ?_ ?_
        rotate_left 2
        · intro w'; go_simp; with_reducible rfl
        · simp only [Act.put, List.setIfInBounds_toArray, List.set_cons_zero, List.set_cons_succ]; rfl
      iterate 3
        refine ord_pureG rfl rfl rfl rfl rfl (fun _ _ _ _ h => h) ?_ ?_ ?_ ?_ ?_
        rotate_left 2
        · intro w'; go_simp; with_reducible rfl
        · simp only [Act.put, List.setIfInBounds_toArray, List.set_cons_zero, List.set_cons_succ]; rfl
      refine ord_readG rfl rfl rfl rfl rfl (fun _ _ _ _ h => h) ?_ ?_ ?_ ?_ ?_
      rotate_left 2
      · intro w' hg; have q := hg.cell b1 (fun h => h); go_simp; with_reducible rfl
      · simp only [Act.put, List.setIfInBounds_toArray, List.set_cons_zero, List.set_cons_succ]; rfl
      refine ord_pureG rfl rfl rfl rfl rfl (fun _ _ _ _ h => h) ?_ ?_ ?_ ?_ ?_
      rotate_left 2
      · intro w'; go_simp; with_reducible rfl
      · simp only [Act.put, List.setIfInBounds_toArray, List.set_cons_zero, List.set_cons_succ]; rfl
      refine ord_readG rfl rfl rfl rfl rfl (fun _ _ _ _ h => h) ?_ ?_ ?_ ?_ ?_
      rotate_left 2
      · intro w' hg; have q := hg.cell z1 (fun h => h); go_simp; with_reducible rfl
      · simp only [Act.put, List.setIfInBounds_toArray, List.set_cons_zero, List.set_cons_succ]; rfl
      refine ord_pureG rfl rfl rfl rfl rfl (fun _ _ _ _ h => h) ?_ ?_ ?_ ?_ ?_
      rotate_left 2
      · intro w'; go_simp; with_reducible rfl
      · simp only [Act.put, List.setIfInBounds_toArray, List.set_cons_zero, List.set_cons_succ]; rfl
      iterate 2
        refine ord_pure rfl rfl rfl rfl rfl (fun _ _ _ _ h => h) ?_ ?_ ?_ ?_ ?_
        rotate_left 2
        · intro w'; go_simp; with_reducible rfl
        · simp only [Act.put, List.setIfInBounds_toArray, List.set_cons_zero, List.set_cons_succ]; rfl
      iterate 3
        refine ord_pureG rfl rfl rfl rfl rfl (fun _ _ _ _ h => h) ?_ ?_ ?_ ?_ ?_
        rotate_left 2
        · intro w'; go_simp; with_reducible rfl
        · simp only [Act.put, List.setIfInBounds_toArray, List.set_cons_zero, List.set_cons_succ]; rfl
      refine ord_readG rfl rfl rfl rfl rfl (fun _ _ _ _ h => h) ?_ ?_ ?_ ?_ ?_
      rotate_left 2
      · intro w' hg; have q := hg.cell b4 (fun h => h); go_simp; with_reducible rfl
      · simp only [Act.put, List.setIfInBounds_toArray, List.set_cons_zero, List.set_cons_succ]; rfl
      refine ord_pureG rfl rfl rfl rfl rfl (fun _ _ _ _ h => h) ?_ ?_ ?_ ?_ ?_
      rotate_left 2
      · intro w'; go_simp; with_reducible rfl
      · simp only [Act.put, List.setIfInBounds_toArray, List.set_cons_zero, List.set_cons_succ]; rfl
      refine ord_readG rfl rfl rfl rfl rfl (fun _ _ _ _ h => h) ?_ ?_ ?_ ?_ ?_
      rotate_left 2
      · intro w' hg; have q := hg.cell z4 (fun h => h); go_simp; with_reducible rfl
      · simp only [Act.put, List.setIfInBounds_toArray, List.set_cons_zero, List.set_cons_succ]; rfl
      refine ord_pureG rfl rfl rfl rfl rfl (fun _ _ _ _ h => h) ?_ ?_ ?_ ?_ ?_
      rotate_left 2
      · intro w'; go_simp; with_reducible rfl
      · simp only [Act.put, List.setIfInBounds_toArray, List.set_cons_zero, List.set_cons_succ]; rfl
      iterate 2
        refine ord_pure rfl rfl rfl rfl rfl (fun _ _ _ _ h => h) ?_ ?_ ?_ ?_ ?_
        rotate_left 2
        · intro w'; go_simp; with_reducible rfl
        · simp only [Act.put, List.setIfInBounds_toArray, List.set_cons_zero, List.set_cons_succ]; rfl
      refine ord_pureG rfl rfl rfl rfl rfl (fun _ _ _ _ h => h) ?_ ?_ ?_ ?_ ?_
      rotate_left 2
      · intro w'; go_simp; with_reducible rfl
      · simp only [Act.put, List.setIfInBounds_toArray, List.set_cons_zero, List.set_cons_succ]; rfl
      have s0 : w9.cell? ⟨w5.heap.size, 0, none⟩ = _ := World.news_of_block HST.out 0 _ rfl
      have s1 : w9.cell? ⟨w5.heap.size, 1, none⟩ = _ := World.news_of_block HST.out 1 _ rfl
      have s2 : w9.cell? ⟨w5.heap.size, 2, none⟩ = _ := World.news_of_block HST.out 2 _ rfl
      have s3 : w9.cell? ⟨w5.heap.size, 3, none⟩ = _ := World.news_of_block HST.out 3 _ rfl
      refine ord_readG rfl rfl rfl rfl rfl (fun _ _ _ _ h => h) ?_ ?_ ?_ ?_ ?_
      rotate_left 2
      · intro w' hg; have q0 := hg.cell s0 (fun h => h); have q1 := hg.cell s1 (fun h => h); have q2 := hg.cell s2 (fun h => h); have q3 := hg.cell s3 (fun h => h); go_simp; with_reducible rfl
      · simp only [Act.put, List.setIfInBounds_toArray, List.set_cons_zero, List.set_cons_succ]; rfl
      clear s0 s1 s2 s3
      refine ord_callG rfl rfl rfl rfl rfl Tryz.func20 rfl rfl [.pointer (some ⟨g, 0, none⟩)] rfl ?_
      refine (status_calls HS.out).mono ?_
      rintro e w10 ⟨rfl, hg10⟩
      refine ⟨_, rfl, fun _ => hg10, ?_⟩
      replace HG := Lib.hid (HG.out.grow hg10)
      replace HST := Lib.hid (Grow.heap hg10 HST.out)
      clear hg10 z0 z1 z2 z3 z4 z5 z6 zf b0 b1 b2 b3 b4 b5 b6 bf
      simp only [Act.put, List.setIfInBounds_toArray, List.set_cons_zero, List.set_cons_succ]
      refine ord_pureG rfl rfl rfl rfl rfl (fun _ _ _ _ h => h) ?_ ?_ ?_ ?_ ?_
      rotate_left 2
      · intro w'; go_simp; with_reducible rfl
      · simp only [Act.put, List.setIfInBounds_toArray, List.set_cons_zero, List.set_cons_succ]; rfl
      refine ord_pure rfl rfl rfl rfl rfl (fun _ _ _ _ h => h) ?_ ?_ ?_ ?_ ?_
      rotate_left 2
      · intro w'; go_simp; with_reducible rfl
      · simp only [Act.put, List.setIfInBounds_toArray, List.set_cons_zero, List.set_cons_succ]; rfl
      refine ord_set rfl rfl rfl rfl ?_ ?_ ?_ ?_ ?_
      rotate_left 2
      · go_simp; with_reducible rfl
      · simp only [Act.put, List.setIfInBounds_toArray, List.set_cons_zero, List.set_cons_succ]; rfl
      refine ord_nil ?_
      go_wp2
      go_ret
      exact ⟨rfl, HG.out⟩
    · have hkb : (kk == 4) = false := by simpa using h4
      refine (take_foreign HS.out kk gg (sum : Nat) gi go h4 HNE.out A1 A2 n1 c1 n2 c2).mono ?_
      rintro e w8 ⟨rfl, hg⟩
      replace HG := Lib.hid (HG.out.grow hg)
      replace HS := Lib.hid (HS.out.grow hg)
      replace HC := Lib.hid (Grow.heap hg HC.out)
      replace HST := Lib.hid (Grow.heap hg HST.out)
      clear hg z0 z1 z2 z3 z4 z5 z6 zf
      obtain ⟨z0, z1, z2, z3, z4, z5, z6, zf⟩ := cells7 HC.out
      go_wp2
      refine region_ord [0, 1, 2, 3, 4, 5, 6, 7, 9, 8, 10, 11, 12, 13, 15, 14, 16, 17, 18] [0, 8, 14, 18] [9] [] rfl (by kernel_rfl) ?_
      refine ord_call rfl rfl rfl rfl rfl Tryz.func13 rfl rfl [] rfl ?_
      refine (known_true _).mono ?_
      rintro e w9 ⟨rfl, hg9⟩
      have hg8 := (Keep.refl NoB w8).drew.grow hg9
      refine ⟨_, rfl, fun _ => hg9, ?_⟩
      replace HG := Lib.hid (HG.out.grow hg8)
      replace HS := Lib.hid (HS.out.grow hg8)
      replace HST := Lib.hid (Grow.heap hg8 HST.out)
      clear hg8 hg9 z0 z1 z2 z3 z4 z5 z6 zf
      simp only [Act.put, List.setIfInBounds_toArray, List.set_cons_zero, List.set_cons_succ]
      refine ord_pure rfl rfl rfl rfl rfl (fun _ _ _ _ h => h) ?_ ?_ ?_ ?_ ?_
      rotate_left 2
      · intro w'; go_simp; with_reducible rfl
      · simp only [Act.put, List.setIfInBounds_toArray, List.set_cons_zero, List.set_cons_succ]; rfl
      iterate 3
        refine ord_pureG rfl rfl rfl rfl rfl (fun _ _ _ _ h => h) ?_ ?_ ?_ ?_ ?_
        rotate_left 2
        · intro w'; go_simp; with_reducible rfl
        · simp only [Act.put, List.setIfInBounds_toArray, List.set_cons_zero, List.set_cons_succ]; rfl
      iterate 2
        refine ord_pure rfl rfl rfl rfl rfl (fun _ _ _ _ h => h) ?_ ?_ ?_ ?_ ?_
        rotate_left 2
        · intro w'; go_simp; with_reducible rfl
        · simp only [Act.put, List.setIfInBounds_toArray, List.set_cons_zero, List.set_cons_succ]; rfl
      refine ord_pureG rfl rfl rfl rfl rfl (fun _ _ _ _ h => h) ?_ ?_ ?_ ?_ ?_
      rotate_left 2
      · intro w'; go_simp; with_reducible rfl
      · simp only [Act.put, List.setIfInBounds_toArray, List.set_cons_zero, List.set_cons_succ]; rfl
      have s0 : w9.cell? ⟨w5.heap.size, 0, none⟩ = _ := World.news_of_block HST.out 0 _ rfl
      have s1 : w9.cell? ⟨w5.heap.size, 1, none⟩ = _ := World.news_of_block HST.out 1 _ rfl
      have s2 : w9.cell? ⟨w5.heap.size, 2, none⟩ = _ := World.news_of_block HST.out 2 _ rfl
      have s3 : w9.cell? ⟨w5.heap.size, 3, none⟩ = _ := World.news_of_block HST.out 3 _ rfl
      refine ord_readG rfl rfl rfl rfl rfl (fun _ _ _ _ h => h) ?_ ?_ ?_ ?_ ?_
      rotate_left 2
      · intro w' hg; have q0 := hg.cell s0 (fun h => h); have q1 := hg.cell s1 (fun h => h); have q2 := hg.cell s2 (fun h => h); have q3 := hg.cell s3 (fun h => h); go_simp; with_reducible rfl
      · simp only [Act.put, List.setIfInBounds_toArray, List.set_cons_zero, List.set_cons_succ]; rfl
      clear s0 s1 s2 s3
      refine ord_callG rfl rfl rfl rfl rfl Tryz.func20 rfl rfl [.pointer (some ⟨g, 0, none⟩)] rfl ?_
      refine (status_calls HS.out).mono ?_
      rintro e w10 ⟨rfl, hg10⟩
      refine ⟨_, rfl, fun _ => hg10, ?_⟩
      replace HG := Lib.hid (HG.out.grow hg10)
      replace HS := Lib.hid (HS.out.grow hg10)
      replace HST := Lib.hid (Grow.heap hg10 HST.out)
      clear hg10
      simp only [Act.put, List.setIfInBounds_toArray, List.set_cons_zero, List.set_cons_succ]
      refine ord_pureG rfl rfl rfl rfl rfl (fun _ _ _ _ h => h) ?_ ?_ ?_ ?_ ?_
      rotate_left 2
      · intro w'; go_simp; with_reducible rfl
      · simp only [Act.put, List.setIfInBounds_toArray, List.set_cons_zero, List.set_cons_succ]; rfl
      iterate 2
        refine ord_pure rfl rfl rfl rfl rfl (fun _ _ _ _ h => h) ?_ ?_ ?_ ?_ ?_
        rotate_left 2
        · intro w'; go_simp; with_reducible rfl
        · simp only [Act.put, List.setIfInBounds_toArray, List.set_cons_zero, List.set_cons_succ]; rfl
      iterate 2
        refine ord_pureG rfl rfl rfl rfl rfl (fun _ _ _ _ h => h) ?_ ?_ ?_ ?_ ?_
        rotate_left 2
        · intro w'; go_simp; with_reducible rfl
        · simp only [Act.put, List.setIfInBounds_toArray, List.set_cons_zero, List.set_cons_succ]; rfl
      refine ord_callG rfl rfl rfl rfl rfl Tryz.func22 rfl rfl [.pointer (some ⟨g, 0, none⟩)] rfl ?_
      refine (waits_calls HS.out).mono ?_
      rintro e w11 ⟨rfl, rfl⟩
      refine ⟨_, rfl, fun _ => Keep.refl _ _, ?_⟩
      simp only [Act.put, List.setIfInBounds_toArray, List.set_cons_zero, List.set_cons_succ]
      refine ord_pureG rfl rfl rfl rfl rfl (fun _ _ _ _ h => h) ?_ ?_ ?_ ?_ ?_
      rotate_left 2
      · intro w'; go_simp; with_reducible rfl
      · simp only [Act.put, List.setIfInBounds_toArray, List.set_cons_zero, List.set_cons_succ]; rfl
      refine ord_pure rfl rfl rfl rfl rfl (fun _ _ _ _ h => h) ?_ ?_ ?_ ?_ ?_
      rotate_left 2
      · intro w'; go_simp; with_reducible rfl
      · simp only [Act.put, List.setIfInBounds_toArray, List.set_cons_zero, List.set_cons_succ]; rfl
      refine ord_set rfl rfl rfl rfl ?_ ?_ ?_ ?_ ?_
      rotate_left 2
      · go_simp; with_reducible rfl
      · simp only [Act.put, List.setIfInBounds_toArray, List.set_cons_zero, List.set_cons_succ]; rfl
      refine ord_nil ?_
      go_wp2
      go_ret
      exact ⟨rfl, HG.out⟩
end Go.Proofs.YtfkcpaahdlkcdaaGreat

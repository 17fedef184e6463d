import Derived.Test.YtfkcpaahdlkcdaaGreatMSendWindow02
/-! Joined: StL. -/
set_option linter.unusedSimpArgs false
set_option linter.unusedVariables false
namespace Go.Proofs.YtfkcpaahdlkcdaaGreat
open Go.RowKit
section
variable {P : Program} {ops : Array Oper} {Q : Exit → Act → World → Prop} {ds : List Nat} {S : Nat → Prop} {R : Act → World → Prop} {acts reads : List Nat} {rest : List Nat} {i : Nat} {o : Oper} {a : Act} {w : World}
theorem ord_make {N : Option Tmp} (hl : ops.toList[i]? = some o) (ha : acts.contains i = true) (hN : o.dst = N) (hg : o.guard = none) (l c : Operand) (t : TypeId) (hop : o.op = Op.makeSlice t l c)
    (base : Nat) (e : TypeId) (z : Value) (size bytes : Nat) (h1 : P.underlying t = some (.slice e)) (h2 : (P.info? e).map (fun i => (i.zero, i.size, i.bytes)) = some (some z, size, bytes))
    (kl kc : IntKind) (L C : Int) (n : Nat) (hl' : a.eval l = .int kl L) (hc' : a.eval c = .int kc C) (hL : L = (n : Int)) (hC : C = (n : Int)) (b2 : bytes * n ≤ 281474976710656) (b3 : n ≤ maxLen) (b4 : base ≤ w.heap.size)
    (h : ∀ w', w'.ownsRow base e size (.slice (some ⟨w.heap.size, 0, none⟩) n n) n (madeCells z.cells (n * size)).toList → w.grownBy w' none → (i ∉ ds → Keep S w w') ∧ wpOrdC S P ops Q R acts reads ds rest (a.put N (.slice (some ⟨w.heap.size, 0, none⟩) n n)) w') :
    wpOrdC S P ops Q R acts reads ds (i :: rest) a w := by
  obtain ⟨ti, hi, q1, q2, q3⟩ := info_parts h2
  obtain ⟨w', hrun, r1, r2⟩ := run_make_full (P := P) w base t e ti z size h1 hi q1 q2 kl kc n (by rw [q3]; exact b2) b3 b4
  subst hL
  subst hC
  refine ord_act hl ha (fun K hK => ?_)
  rw [if_pos (by simp [Region.wanted, hg])]
  subst hN
  unfold Oper.wp
  simp [execOp, hop, hl', hc', hrun, Result.andThen]
  exact hK _ _ (h w' r1 r2)
end
theorem RowsR.foot {k : IntKind} {a : List (List Int)} {v : Value} {w : World} (h : RowsR k a v w) : Foot (RowsR k a v) w (fun j => j < w.heap.size) := by
  refine ⟨fun j hj => hj, fun W' hW => ?_⟩
  obtain ⟨A, c, rfl, hr⟩ := h
  have hcell : ∀ p u, w.cell? p = some u → W'.cell? p = some u := fun p u hc => (World.cell?_of_block (w := w) (hW p.block (World.block_lt_of_cell? _ _ hc))).trans hc
  refine ⟨A, c, rfl, fun i hi => ?_⟩
  obtain ⟨ad, A', c', e1, e2, e3⟩ := hr i hi
  refine ⟨ad, A', c', e1, hcell _ _ e2, ?_⟩
  obtain ⟨A9, c9, f1, f2, f3, f4, f5⟩ := e3
  exact ⟨A9, c9, f1, f2, f3, f4, fun j u hu => by obtain ⟨ad2, g1, g2⟩ := f5 j u hu; exact ⟨ad2, g1, hcell _ _ g2⟩⟩
theorem made8 (m : Nat) : (madeCells (Value.int .u8 0).cells (m * 1)).toList = u8s (List.replicate m 0) := by
  apply List.ext_getElem (by simp [u8s, madeCells, Value.cells])
  intro j h1 h2
  simp [u8s, madeCells, Value.cells, Nat.mod_one]
theorem chunk_in {a : List (List Int)} (i : Nat) (hi : i < chunksN (szs a)) : 64 * i < (rB a.flatten).length := by
  rw [rB_length]
  have := szs_sum a
  unfold chunksN at hi
  omega
set_option maxRecDepth 100000 in
set_option maxHeartbeats 16000000 in
theorem sendWindow_calls (session : Int) (A : Option Addr) (c : Nat) (l : List Int) (k j now : Int) (W : World) (h : SliceR 1 (.slice A l.length c) l.length (u8s l) W) (hu : okU l) (hs0 : 0 ≤ session) (hs1 : session ≤ 18446744073709551615) (hk : 0 ≤ k ∧ k ≤ 255) (hj : 0 ≤ j ∧ j ≤ 255) (hn : 0 ≤ now ∧ now ≤ 65535) :
    Calls Tryz.prog 5 #[.int .u64 session, .slice A l.length c, .int .u8 k, .int .u8 j, .int .u16 now] W fun e w' => e = .returned (.bool true) ∧ Grow W w' := by
  obtain ⟨hn0, hn1⟩ := hn
  by_cases hlen : 100 < l.length
  · have hgt : (100 : Int) < ((l.length : Nat) : Int) := by omega
    clear h hu hk hj
    go_enter Tryz.func5, Tryz.ntmps5
    go_wp2_with fail
    refine (known_true _).mono ?_
    rintro e w1 ⟨rfl, hg⟩
    have HG := Lib.hid hg
    clear hg
    go_wp2
    go_ret
    exact ⟨rfl, HG.out⟩
  have hgt : ¬ ((100 : Int) < ((l.length : Nat) : Int)) := by omega
  have HBT := Lib.hid (bent_calls l A c k W h (by omega) hu hk.1 hk.2)
  have HKJ := Lib.hid (And.intro hk hj)
  have HS01 := Lib.hid (And.intro hs0 hs1)
  clear h hu hk hj hlen hs0 hs1
  go_enter Tryz.func5, Tryz.ntmps5
  go_wp2_with fail
  refine HBT.out.mono ?_
  rintro e w1 ⟨a, Aa, ca, rfl, hg, hoa, hrows⟩
  have HG := Lib.hid hg
  have HO := Lib.hid hoa
  have HR := Lib.hid hrows.foot
  clear hg hoa hrows HBT
  go_wp2_with fail
  refine (config_calls k j _ HKJ.out.1 HKJ.out.2).mono ?_
  rintro e w2 ⟨rfl, hg⟩
  have hgc := (Keep.refl NoB w2).alloc (.cells #[.int .i64 (1 + k % 5), .int .i64 (1 + k / 16), .int .i64 (1 + j % 40), .int .i64 1048576] 26)
  have HCG := Lib.hid (heap_alloc_new w2 (.cells #[.int .i64 (1 + k % 5), .int .i64 (1 + k / 16), .int .i64 (1 + j % 40), .int .i64 1048576] 26))
  have HZ2 : Hid (W.heap.size ≤ w2.heap.size ∧ w1.heap.size ≤ w2.heap.size) := Lib.hid (by have := HG.out.size; have := hg.size; omega)
  replace HG := Lib.hid (HG.out.grow (hg.grow hgc))
  replace HR := Lib.hid (HR.out.grow (hg.grow hgc))
  clear hg hgc
  have HCF := Lib.hid (config_ok k j HKJ.out.1 HKJ.out.2)
  have x0 : (w2.alloc (.cells #[.int .i64 (1 + k % 5), .int .i64 (1 + k / 16), .int .i64 (1 + j % 40), .int .i64 1048576] 26)).cell? ⟨w2.heap.size, 0, none⟩ = _ := World.news_of_block HCG.out 0 _ rfl
  have x1 : (w2.alloc (.cells #[.int .i64 (1 + k % 5), .int .i64 (1 + k / 16), .int .i64 (1 + j % 40), .int .i64 1048576] 26)).cell? ⟨w2.heap.size, 1, none⟩ = _ := World.news_of_block HCG.out 1 _ rfl
  have x2 : (w2.alloc (.cells #[.int .i64 (1 + k % 5), .int .i64 (1 + k / 16), .int .i64 (1 + j % 40), .int .i64 1048576] 26)).cell? ⟨w2.heap.size, 2, none⟩ = _ := World.news_of_block HCG.out 2 _ rfl
  have x3 : (w2.alloc (.cells #[.int .i64 (1 + k % 5), .int .i64 (1 + k / 16), .int .i64 (1 + j % 40), .int .i64 1048576] 26)).cell? ⟨w2.heap.size, 3, none⟩ = _ := World.news_of_block HCG.out 3 _ rfl
  go_wp2_with fail
  by_cases hchk : checkP a = 0
  case neg =>
    refine (snew_err session a HO.out hchk HCF.out Aa ca _ HR.out.now).mono ?_
    rintro e w3 ⟨rfl, hg⟩
    replace HG := Lib.hid (HG.out.grow hg)
    have hcb : (checkP a != 0) = true := by simp [hchk]
    clear hg hchk x0 x1 x2 x3
    go_wp2_with fail
    refine (known_true _).mono ?_
    rintro e w4 ⟨rfl, hg⟩
    replace HG := Lib.hid (HG.out.grow hg)
    clear hg
    go_wp2
    go_ret
    exact ⟨rfl, HG.out⟩
  refine (snew_calls session HS01.out.1 HS01.out.2 a HO.out hchk HCF.out Aa ca _ HR.out.now).mono ?_
  rintro e w3 ⟨g, p, Fq, G, rfl, hS, hg, hsf, _⟩
  have hfit := check_fit hchk
  have HFIT := Lib.hid hfit
  have HFL : Hid (a.flatten.length ≤ 1000000) := Lib.hid (by have := fit_flat hfit; omega)
  obtain ⟨d, hd⟩ : ∃ d, newD session a (1 + k % 5) (1 + k / 16) (1 + j % 40) 1048576 = d := ⟨_, rfl⟩
  rw [hd] at hS
  have HD := Lib.hid hd
  have HS := Lib.hid hS
  have hszc : (w2.alloc (.cells #[.int .i64 (1 + k % 5), .int .i64 (1 + k / 16), .int .i64 (1 + j % 40), .int .i64 1048576] 26)).heap.size = w2.heap.size + 1 := by simp
  have HSF : Hid (∀ k, SF g p.rt Fq k → w2.heap.size < k) := Lib.hid (fun k hk => by have := hsf k hk; omega)
  replace HG := Lib.hid (HG.out.grow hg)
  replace HR := Lib.hid (HR.out.grow hg)
  replace HCG := Lib.hid (Grow.heap hg HCG.out)
  clear hS hg hsf hd hchk hszc hfit x0 x1 x2 x3
  go_wp2_with fail
  refine (rmof_calls session HS01.out.1 HS01.out.2 a HO.out HFIT.out HFL.out Aa ca w3 HR.out.now).mono ?_
  rintro e w4 ⟨Am, cm, rfl, hg, hSm⟩
  have hgm := (Keep.refl NoB w4).alloc (.cells #[.int .u64 session, .slice Am (szs a).length cm, .int .u32 (sumP session a : Nat)] 40)
  have HMC := Lib.hid (heap_alloc_new w4 (.cells #[.int .u64 session, .slice Am (szs a).length cm, .int .u32 (sumP session a : Nat)] 40))
  have hg34 := hg.grow hgm
  have HMS := Lib.hid (hSm.grow hgm)
  have HNSM : Hid (¬ SF g p.rt Fq w4.heap.size) := Lib.hid (fun hk => by have h1 := HS.out.small _ hk; have := hg.size; omega)
  replace HG := Lib.hid (HG.out.grow hg34)
  replace HR := Lib.hid (HR.out.grow hg34)
  replace HS := Lib.hid (HS.out.grow hg34)
  replace HCG := Lib.hid (Grow.heap hg34 HCG.out)
  obtain ⟨m0, m1, m2, mf⟩ := cells3 HMC.out
  clear hg hgm hg34 hSm
  go_wp2_with fail
  refine (rmchunks_calls session (sumP session a : Nat) (szs a) Am cm _ HMS.out HFIT.out).mono ?_
  rintro e w5 ⟨rfl, hg⟩
  replace HG := Lib.hid (HG.out.grow hg)
  replace HR := Lib.hid (HR.out.grow hg)
  replace HS := Lib.hid (HS.out.grow hg)
  replace HCG := Lib.hid (Grow.heap hg HCG.out)
  replace HMC := Lib.hid (Grow.heap hg HMC.out)
  clear hg m0 m1 m2 mf HMS
  obtain ⟨q, hq⟩ : ∃ q, chunksN (szs a) = q := ⟨_, rfl⟩
  obtain ⟨sm, hsm⟩ : ∃ sm, sumP session a = sm := ⟨_, rfl⟩
  have HQ := Lib.hid hq
  have HSUM := Lib.hid hsm
  rw [hq]
  rw [hsm] at HMC ⊢
  have hq512 : q ≤ 512 := by
    obtain ⟨_, _, _, h4⟩ := fits_parts HFIT.out
    rw [← hq]; unfold chunksN; omega
  clear hq hsm
  obtain ⟨m0, m1, m2, mf⟩ := cells3 HMC.out
  have hwq : IntKind.i64.wrap ((q : Int) + 7) = (q : Int) + 7 := IntWalk.i64_in _ (by omega)
  have hq0 : 0 ≤ (q : Int) + 7 := by omega
  go_wp2
  refine region_ord [0, 1, 2, 3, 4, 5, 6, 7, 8, 9, 10] [8, 10] [3] [10] rfl (by kernel_rfl) ?_
  iterate 3
    refine ord_pure rfl rfl rfl rfl rfl (fun _ _ _ _ h => h) ?_ ?_ ?_ ?_ ?_
    rotate_left 2
    · intro w'; go_simp; with_reducible rfl
    · simp only [Act.put, pB, pC, pD]; rfl
  refine ord_read rfl rfl rfl rfl rfl (fun _ _ _ _ h => h) ?_ ?_ ?_ ?_ ?_
  rotate_left 2
  · intro w' hg; have q := hg.cell m2 (fun h => h); go_simp; with_reducible rfl
  · simp only [Act.put, pB, pC, pD]; rfl
  iterate 4
    refine ord_pure rfl rfl rfl rfl rfl (fun _ _ _ _ h => h) ?_ ?_ ?_ ?_ ?_
    rotate_left 2
    · intro w'; go_simp; with_reducible rfl
    · simp only [Act.put, pB, pC, pD]; rfl
  refine ord_make rfl rfl rfl rfl _ _ _ rfl w5.heap.size 5 (.int .u8 0) 1 1 u_bytes info_u8 .i64 .i64 _ _ ((q + 7) / 8) rfl rfl (by rw [Int.tdiv_eq_ediv_of_nonneg (by omega), IntWalk.i64_in _ (by omega)]; omega) (by rw [Int.tdiv_eq_ediv_of_nonneg (by omega), IntWalk.i64_in _ (by omega)]; omega) (by omega) (by simp [maxLen]; omega) (Nat.le_refl _) ?_
  intro w6 hown hgr
  have hg6 : Grow w5.drew w6 := (Keep.refl NoB w5.drew).grown hgr (by simp)
  have hg56 : Grow w5 w6 := (Keep.refl NoB w5).drew.grow hg6
  refine ⟨fun _ => hg6, ?_⟩
  rw [made8] at hown
  have hmk : makeB q = List.replicate ((q + 7) / 8) 0 := rfl
  rw [← hmk] at hown
  have hbl : (makeB q).length = (q + 7) / 8 := makeB_length q
  have hSR := SliceR.of_own hown
  rw [← hbl] at hSR
  replace HG := Lib.hid (HG.out.grow hg56)
  replace HR := Lib.hid (HR.out.grow hg56)
  replace HS := Lib.hid (HS.out.grow hg56)
  replace HCG := Lib.hid (Grow.heap hg56 HCG.out)
  replace HMC := Lib.hid (Grow.heap hg56 HMC.out)
  have hphase : d.phase = 1 := by rw [← HD.out]; rfl
  have hses : d.session = session := by rw [← HD.out]; rfl
  have hch : d.ch.length = q := by rw [← HD.out, ← HQ.out]; exact chsP_length a
  have hsum : d.sum = sm := by rw [← HD.out, ← HSUM.out]; rfl
  have htk := take_sack HS.out hphase none (some ⟨w5.drew.heap.size, 0, none⟩) 0 0 (makeB q).length (makeB q) (fun c hc => by
    rw [hmk] at hc
    have := List.eq_of_mem_replicate hc
    omega) (by omega) hSR (by rw [hch]; exact rightBits_make q)
  rw [hses, hch, hsum, hbl] at htk
  have HTK := Lib.hid htk
  clear m0 m1 m2 mf hown hgr hg6 hg56 hbl hSR hphase hses hch hsum htk hmk
  simp only [Act.put, pB, pC, pD]
  refine ord_pure rfl rfl rfl rfl rfl (fun _ _ _ _ h => h) ?_ ?_ ?_ ?_ ?_
  rotate_left 2
  · intro w'; go_simp; with_reducible rfl
  · simp only [Act.put, pB, pC, pD]; rfl
  refine ord_call rfl rfl rfl rfl rfl Tryz.func29 rfl rfl [.pointer (some ⟨g, 0, none⟩), .agg #[.int .i64 3, .int .u64 session, .int .i64 1, .int .i64 (q : Nat), .int .u32 (sm : Nat), .slice none 0 0, .slice (some ⟨w5.drew.heap.size, 0, none⟩) ((q + 7) / 8) ((q + 7) / 8)]] rfl ?_
  refine HTK.out.mono ?_
  rintro e w7 ⟨rfl, p7, G7, hS, hK, hrt, hg7⟩
  refine ⟨_, rfl, fun h => absurd (by simp) h, ?_⟩
  have hd1 : sackD d (makeB q) = winD (newD session a (1 + k % 5) (1 + k / 16) (1 + j % 40) 1048576) := by rw [← HD.out]; exact sackD_new _ _ _ _ _ _ q
  obtain ⟨d1, hd2⟩ : ∃ d1, winD (newD session a (1 + k % 5) (1 + k / 16) (1 + j % 40) 1048576) = d1 := ⟨_, rfl⟩
  rw [hd1, hd2] at hS
  have hph1 : d1.phase = 1 := by rw [← hd2]; rfl
  have hsf2 := HSF.out
  replace HG := Lib.hid (HG.out.trans hK (fun i hi => .inr (by have := hsf2 i hi; have := HZ2.out; omega)))
  replace HR := Lib.hid (HR.out.keep hK (fun j hj hs => by have := hsf2 j hs; have := HZ2.out; omega))
  replace HCG := Lib.hid ((hK.block _ (Array.getElem?_eq_some_iff.1 HCG.out).1 (fun hs => by have := hsf2 _ hs; omega)).trans HCG.out)
  replace HMC := Lib.hid ((hK.block _ (Array.getElem?_eq_some_iff.1 HMC.out).1 HNSM.out).trans HMC.out)
  rw [← hrt] at hsf2
  have hns7 := HNSM.out
  rw [← hrt] at hns7
  replace HSF := Lib.hid hsf2
  replace HNSM := Lib.hid hns7
  replace HS := Lib.hid hS
  have HD1 := Lib.hid hd2
  have HTI := Lib.hid (tick_calls HS.out hph1 now hn0 (by omega))
  have HKB : Hid (0 ≤ k ∧ k ≤ 255) := Lib.hid HKJ.out.1
  clear hS hK hrt hg7 hd1 hd2 hph1 hsf2 hns7 HTK HD
  simp only [Act.put, pB, pC, pD]
  refine ord_nil ?_
  go_wp2_with fail
  refine HTI.out.mono ?_
  rintro e w8 ⟨A8, c8, rows, Gr, p8, F8, ds, rfl, hdue, hrt8, hS8, hrows, hout, hK8, hG8, hdis⟩
  obtain ⟨m, hm⟩ : ∃ m, m = min (1 + k % 5).toNat (chunksN (szs a)) := ⟨_, rfl⟩
  have hkb := HKB.out
  have hwt := winD_tick session a (1 + k % 5) (1 + k / 16) (1 + j % 40) 1048576 now HFIT.out (by omega) (by omega) (by have := HKJ.out.2; omega) d1 HD1.out.symm ds hdue m hm
  rw [HQ.out, HSUM.out] at hwt
  rw [HQ.out] at hm
  have hmap := hrows.trans hwt.1
  have hrl : rows.length = m := by
    have := congrArg List.length hmap
    simpa using this
  have hri : ∀ i (h : i < rows.length), rows[i].1 = (⟨2, session, (i : Nat), q, sm, [], chunkP a i⟩ : Gm) := fun i h => by
    have h2 : (rows.map (·.1))[i]? = some rows[i].1 := by rw [List.getElem?_map, List.getElem?_eq_getElem h]; rfl
    rw [hmap, List.getElem?_map, List.getElem?_range (by omega)] at h2
    simpa using h2.symm
  have htl := hwt.2
  generalize (tickL now ds { openD now d1 with tm := restL (openD now d1).tm now } []).1 = d2 at hS8 htl
  have hsf2 := HSF.out
  replace HG := Lib.hid (HG.out.trans hK8 (fun i hi => .inr (by have := hsf2 i hi; have := HZ2.out; omega)))
  replace HR := Lib.hid (HR.out.keep hK8 (fun j hj hs => by have := hsf2 j hs; have := HZ2.out; omega))
  replace HCG := Lib.hid ((hK8.block _ (Array.getElem?_eq_some_iff.1 HCG.out).1 (fun hs => by have := hsf2 _ hs; omega)).trans HCG.out)
  replace HMC := Lib.hid ((hK8.block _ (Array.getElem?_eq_some_iff.1 HMC.out).1 HNSM.out).trans HMC.out)
  have HW8 := Lib.hid (waits_calls hS8)
  rw [htl] at HW8
  have HOUT := Lib.hid hout
  have HRI := Lib.hid hri
  have HRL := Lib.hid hrl
  have hmq : m ≤ q := by omega
  have HMQ : Hid (m ≤ chunksN (szs a)) := Lib.hid (by rw [HQ.out]; exact hmq)
  rw [hrl]
  have HM := Lib.hid hm
  clear hm
  have x0 : w8.cell? ⟨w2.heap.size, 0, none⟩ = _ := World.news_of_block HCG.out 0 _ rfl
  have hb1 : 0 ≤ k % 5 := by omega
  have hb2 : k % 5 ≤ 4 := by omega
  clear hdue hrt8 hS8 hrows hout hK8 hG8 hdis hwt hmap hrl hri htl hsf2 HS HTI HD1 HKB hkb
  rcases Int.lt_trichotomy (1 + k % 5) (q : Int) with hlt | hlt | hlt
  · have hnb : ((m : Int) != 1 + k % 5) = false := by have := HM.out; rw [bne_eq_false_iff_eq]; omega
    go_wp2_with fail
    refine HW8.out.mono ?_
    rintro e w9 ⟨rfl, rfl⟩
    clear x0
    go_wp2_with fail
    go_loopw [19] (fun v wr => ∃ i : Nat, i ≤ m ∧ v = .int .i64 i ∧ Hid (Grow w8 wr)) (fun v _ => m - (intOf v).toNat)
    case atStart => exact ⟨0, by omega, rfl, Keep.refl _ _⟩
    case round =>
      obtain ⟨i, hi, rfl, HGR⟩ := hrel
      by_cases hil : i < m
      · have hil' : (i : Int) < m := by omega
        have hwi : IntKind.i64.wrap ((i : Int) + 1) = (i : Int) + 1 := IntWalk.i64_in _ (by omega)
        have hir : i < rows.length := by rw [HRL.out]; exact hil
        obtain ⟨r, hAr, y0, y1, y2, y3, y4, y5, y6⟩ := (HOUT.out.grow HGR.out).at_ i hir
        have hro := (HOUT.out.grow HGR.out).ro.now rows[i] (List.getElem_mem hir)
        have hrow := HRI.out i hir
        obtain ⟨v5, v6, hv56⟩ : ∃ v5 v6, rows[i].2 = (v5, v6) := ⟨_, _, rfl⟩
        rw [hrow] at y0 y1 y2 y3 y4
        rw [Nat.mul_comm 7 i] at y0 y1 y2 y3 y4 y5 y6
        rw [hv56] at y5 y6
        have hb6 : SliceR 1 v6 (chunkP a i).length (u8s (chunkP a i)) wr := by
          have := hro.2
          rw [hrow, hv56] at this
          exact this
        obtain ⟨A6, c6, rfl⟩ := hb6.cut
        have HB6 := Lib.hid hb6
        have hcs := conv_str hb6
        have hmc := Grow.heap HGR.out HMC.out
        obtain ⟨m0, m1, m2, mf⟩ := cells3 hmc
        have HCH := Lib.hid (rchunk_calls a HO.out HFIT.out HFL.out i (chunk_in i (Nat.lt_of_lt_of_le hil HMQ.out)) Aa ca wr.drew (HR.out.grow (HGR.out.drew)).now)
        subst hAr
        clear hro hrow hv56 hmc hb6
        go_wp2
        refine region_ord [0, 1, 2, 3, 4, 5, 6, 7, 8, 9, 10, 11, 12, 13, 14, 15, 16, 17, 18, 19, 20, 21, 22, 23, 24, 25, 26, 27, 28, 29, 30, 31, 32, 33, 34, 35, 36, 37, 38, 39, 40, 41, 42, 43, 44, 45, 46] [33] [4, 11, 20, 29, 30, 34, 42, 44] [] rfl (by kernel_rfl) ?_
        iterate 4
          refine ord_pure rfl rfl rfl rfl rfl (fun _ _ _ _ h => h) ?_ ?_ ?_ ?_ ?_
          rotate_left 2
          · intro w'; go_simp; with_reducible rfl
          · simp only [Act.put, pB, pC, pD]; rfl
        refine ord_read rfl rfl rfl rfl rfl (fun _ _ _ _ h => h) ?_ ?_ ?_ ?_ ?_
        rotate_left 2
        · intro w' hg; have q := hg.cell y0 (fun h => h); go_simp; with_reducible rfl
        · simp only [Act.put, pB, pC, pD]; rfl
        iterate 2
          refine ord_pure rfl rfl rfl rfl rfl (fun _ _ _ _ h => h) ?_ ?_ ?_ ?_ ?_
          rotate_left 2
          · intro w'; go_simp; with_reducible rfl
          · simp only [Act.put, pB, pC, pD]; rfl
        iterate 4
          refine ord_pureG rfl rfl rfl rfl rfl (fun _ _ _ _ h => h) ?_ ?_ ?_ ?_ ?_
          rotate_left 2
          · intro w'; go_simp; with_reducible rfl
          · simp only [Act.put, pB, pC, pD]; rfl
        refine ord_readG rfl rfl rfl rfl rfl (fun _ _ _ _ h => h) ?_ ?_ ?_ ?_ ?_
        rotate_left 2
        · intro w' hg; have q := hg.cell y2 (fun h => h); go_simp; with_reducible rfl
        · simp only [Act.put, pB, pC, pD]; rfl
        iterate 2
          refine ord_pureG rfl rfl rfl rfl rfl (fun _ _ _ _ h => h) ?_ ?_ ?_ ?_ ?_
          rotate_left 2
          · intro w'; go_simp; with_reducible rfl
          · simp only [Act.put, pB, pC, pD]; rfl
        iterate 2
          refine ord_pure rfl rfl rfl rfl rfl (fun _ _ _ _ h => h) ?_ ?_ ?_ ?_ ?_
          rotate_left 2
          · intro w'; go_simp; with_reducible rfl
          · simp only [Act.put, pB, pC, pD]; rfl
        iterate 4
          refine ord_pureG rfl rfl rfl rfl rfl (fun _ _ _ _ h => h) ?_ ?_ ?_ ?_ ?_
          rotate_left 2
          · intro w'; go_simp; with_reducible rfl
          · simp only [Act.put, pB, pC, pD]; rfl
        refine ord_readG rfl rfl rfl rfl rfl (fun _ _ _ _ h => h) ?_ ?_ ?_ ?_ ?_
        rotate_left 2
        · intro w' hg; have q := hg.cell y3 (fun h => h); go_simp; with_reducible rfl
        · simp only [Act.put, pB, pC, pD]; rfl
        iterate 2
          refine ord_pureG rfl rfl rfl rfl rfl (fun _ _ _ _ h => h) ?_ ?_ ?_ ?_ ?_
          rotate_left 2
          · intro w'; go_simp; with_reducible rfl
          · simp only [Act.put, pB, pC, pD]; rfl
        iterate 2
          refine ord_pure rfl rfl rfl rfl rfl (fun _ _ _ _ h => h) ?_ ?_ ?_ ?_ ?_
          rotate_left 2
          · intro w'; go_simp; with_reducible rfl
          · simp only [Act.put, pB, pC, pD]; rfl
        iterate 4
          refine ord_pureG rfl rfl rfl rfl rfl (fun _ _ _ _ h => h) ?_ ?_ ?_ ?_ ?_
          rotate_left 2
          · intro w'; go_simp; with_reducible rfl
          · simp only [Act.put, pB, pC, pD]; rfl
        refine ord_readG rfl rfl rfl rfl rfl (fun _ _ _ _ h => h) ?_ ?_ ?_ ?_ ?_
        rotate_left 2
        · intro w' hg; have q := hg.cell y6 (fun h => h); go_simp; with_reducible rfl
        · simp only [Act.put, pB, pC, pD]; rfl
        refine ord_readG rfl rfl rfl rfl rfl (fun _ _ _ _ h => h) ?_ ?_ ?_ ?_ ?_
        rotate_left 2
        · intro w' hg; have q := conv_str (HB6.out.grow ((Keep.refl NoB wr).drew.grow hg)); go_simp; with_reducible rfl
        · simp only [Act.put, pB, pC, pD]; rfl
        iterate 2
          refine ord_pureG rfl rfl rfl rfl rfl (fun _ _ _ _ h => h) ?_ ?_ ?_ ?_ ?_
          rotate_left 2
          · intro w'; go_simp; with_reducible rfl
          · simp only [Act.put, pB, pC, pD]; rfl
        refine ord_callG rfl rfl rfl rfl rfl Tryz.func31 rfl rfl [.slice Aa a.length ca, .int .i64 (i : Nat)] rfl ?_
        refine HCH.out.mono ?_
        rintro e w10 ⟨A10, c10, rfl, hg10, hb10⟩
        refine ⟨_, rfl, fun _ => hg10, ?_⟩
        have HB10 := Lib.hid hb10
        have hg11 := (Keep.refl NoB wr).drew.grow hg10
        have HGR2 := Lib.hid (HGR.out.grow hg11)
        have y4' := hg11.cell y4 (fun h => h)
        have m2' := hg11.cell m2 (fun h => h)
        clear hg10 hb10 hg11 y0 y1 y2 y3 y4 y5 y6 m0 m1 m2 mf hcs HCH
        simp only [Act.put, pB, pC, pD]
        refine ord_readG rfl rfl rfl rfl rfl (fun _ _ _ _ h => h) ?_ ?_ ?_ ?_ ?_
        rotate_left 2
        · intro w' hg; have q := conv_str (HB10.out.grow hg); go_simp; with_reducible rfl
        · simp only [Act.put, pB, pC, pD]; rfl
        refine ord_pureG rfl rfl rfl rfl rfl (fun _ _ _ _ h => h) ?_ ?_ ?_ ?_ ?_
        rotate_left 2
        · intro w'; go_simp; with_reducible rfl
        · simp only [Act.put, pB, pC, pD]; rfl
        iterate 2
          refine ord_pure rfl rfl rfl rfl rfl (fun _ _ _ _ h => h) ?_ ?_ ?_ ?_ ?_
          rotate_left 2
          · intro w'; go_simp; with_reducible rfl
          · simp only [Act.put, pB, pC, pD]; rfl
        iterate 4
          refine ord_pureG rfl rfl rfl rfl rfl (fun _ _ _ _ h => h) ?_ ?_ ?_ ?_ ?_
          rotate_left 2
          · intro w'; go_simp; with_reducible rfl
          · simp only [Act.put, pB, pC, pD]; rfl
        refine ord_readG rfl rfl rfl rfl rfl (fun _ _ _ _ h => h) ?_ ?_ ?_ ?_ ?_
        rotate_left 2
        · intro w' hg; have q := hg.cell y4' (fun h => h); go_simp; with_reducible rfl
        · simp only [Act.put, pB, pC, pD]; rfl
        refine ord_pureG rfl rfl rfl rfl rfl (fun _ _ _ _ h => h) ?_ ?_ ?_ ?_ ?_
        rotate_left 2
        · intro w'; go_simp; with_reducible rfl
        · simp only [Act.put, pB, pC, pD]; rfl
        refine ord_readG rfl rfl rfl rfl rfl (fun _ _ _ _ h => h) ?_ ?_ ?_ ?_ ?_
        rotate_left 2
        · intro w' hg; have q := hg.cell m2' (fun h => h); go_simp; with_reducible rfl
        · simp only [Act.put, pB, pC, pD]; rfl
        refine ord_pureG rfl rfl rfl rfl rfl (fun _ _ _ _ h => h) ?_ ?_ ?_ ?_ ?_
        rotate_left 2
        · intro w'; go_simp; with_reducible rfl
        · simp only [Act.put, pB, pC, pD]; rfl
        refine ord_pure rfl rfl rfl rfl rfl (fun _ _ _ _ h => h) ?_ ?_ ?_ ?_ ?_
        rotate_left 2
        · intro w'; go_simp; with_reducible rfl
        · simp only [Act.put, pB, pC, pD]; rfl
        refine ord_nil ?_
        go_wp2
        go_roundw
        case rel => exact ⟨i + 1, by omega, by go_num, HGR2⟩
        case measure => simp [intOf]; omega
      · obtain rfl : i = m := by omega
        have hil' : ¬ ((i : Int) < (i : Int)) := by omega
        replace HG := Lib.hid (HG.out.grow HGR.out)
        go_wp2_with fail
        refine (known_true _).mono ?_
        rintro e w12 ⟨rfl, hg⟩
        replace HG := Lib.hid (HG.out.grow hg)
        clear hg
        go_wp2
        go_ret
        exact ⟨rfl, HG.out⟩
  · have hnb : ((m : Int) != 1 + k % 5) = false := by have := HM.out; rw [bne_eq_false_iff_eq]; omega
    have hnb2 : ((m : Int) != (q : Int)) = false := by have := HM.out; rw [bne_eq_false_iff_eq]; omega
    go_wp2_with fail
    refine HW8.out.mono ?_
    rintro e w9 ⟨rfl, rfl⟩
    clear x0
    go_wp2_with fail
    go_loopw [19] (fun v wr => ∃ i : Nat, i ≤ m ∧ v = .int .i64 i ∧ Hid (Grow w8 wr)) (fun v _ => m - (intOf v).toNat)
    case atStart => exact ⟨0, by omega, rfl, Keep.refl _ _⟩
    case round =>
      obtain ⟨i, hi, rfl, HGR⟩ := hrel
      by_cases hil : i < m
      · have hil' : (i : Int) < m := by omega
        have hwi : IntKind.i64.wrap ((i : Int) + 1) = (i : Int) + 1 := IntWalk.i64_in _ (by omega)
        have hir : i < rows.length := by rw [HRL.out]; exact hil
        obtain ⟨r, hAr, y0, y1, y2, y3, y4, y5, y6⟩ := (HOUT.out.grow HGR.out).at_ i hir
        have hro := (HOUT.out.grow HGR.out).ro.now rows[i] (List.getElem_mem hir)
        have hrow := HRI.out i hir
        obtain ⟨v5, v6, hv56⟩ : ∃ v5 v6, rows[i].2 = (v5, v6) := ⟨_, _, rfl⟩
        rw [hrow] at y0 y1 y2 y3 y4
        rw [Nat.mul_comm 7 i] at y0 y1 y2 y3 y4 y5 y6
        rw [hv56] at y5 y6
        have hb6 : SliceR 1 v6 (chunkP a i).length (u8s (chunkP a i)) wr := by
          have := hro.2
          rw [hrow, hv56] at this
          exact this
        obtain ⟨A6, c6, rfl⟩ := hb6.cut
        have HB6 := Lib.hid hb6
        have hcs := conv_str hb6
        have hmc := Grow.heap HGR.out HMC.out
        obtain ⟨m0, m1, m2, mf⟩ := cells3 hmc
        have HCH := Lib.hid (rchunk_calls a HO.out HFIT.out HFL.out i (chunk_in i (Nat.lt_of_lt_of_le hil HMQ.out)) Aa ca wr.drew (HR.out.grow (HGR.out.drew)).now)
        subst hAr
        clear hro hrow hv56 hmc hb6
        go_wp2
        refine region_ord [0, 1, 2, 3, 4, 5, 6, 7, 8, 9, 10, 11, 12, 13, 14, 15, 16, 17, 18, 19, 20, 21, 22, 23, 24, 25, 26, 27, 28, 29, 30, 31, 32, 33, 34, 35, 36, 37, 38, 39, 40, 41, 42, 43, 44, 45, 46] [33] [4, 11, 20, 29, 30, 34, 42, 44] [] rfl (by kernel_rfl) ?_
        iterate 4
          refine ord_pure rfl rfl rfl rfl rfl (fun _ _ _ _ h => h) ?_ ?_ ?_ ?_ ?_
          rotate_left 2
          · intro w'; go_simp; with_reducible rfl
          · simp only [Act.put, pB, pC, pD]; rfl
        refine ord_read rfl rfl rfl rfl rfl (fun _ _ _ _ h => h) ?_ ?_ ?_ ?_ ?_
        rotate_left 2
        · intro w' hg; have q := hg.cell y0 (fun h => h); go_simp; with_reducible rfl
        · simp only [Act.put, pB, pC, pD]; rfl
        iterate 2
          refine ord_pure rfl rfl rfl rfl rfl (fun _ _ _ _ h => h) ?_ ?_ ?_ ?_ ?_
          rotate_left 2
          · intro w'; go_simp; with_reducible rfl
          · simp only [Act.put, pB, pC, pD]; rfl
        iterate 4
          refine ord_pureG rfl rfl rfl rfl rfl (fun _ _ _ _ h => h) ?_ ?_ ?_ ?_ ?_
          rotate_left 2
          · intro w'; go_simp; with_reducible rfl
          · simp only [Act.put, pB, pC, pD]; rfl
        refine ord_readG rfl rfl rfl rfl rfl (fun _ _ _ _ h => h) ?_ ?_ ?_ ?_ ?_
        rotate_left 2
        · intro w' hg; have q := hg.cell y2 (fun h => h); go_simp; with_reducible rfl
        · simp only [Act.put, pB, pC, pD]; rfl
        iterate 2
          refine ord_pureG rfl rfl rfl rfl rfl (fun _ _ _ _ h => h) ?_ ?_ ?_ ?_ ?_
          rotate_left 2
          · intro w'; go_simp; with_reducible rfl
          · simp only [Act.put, pB, pC, pD]; rfl
        iterate 2
          refine ord_pure rfl rfl rfl rfl rfl (fun _ _ _ _ h => h) ?_ ?_ ?_ ?_ ?_
          rotate_left 2
          · intro w'; go_simp; with_reducible rfl
          · simp only [Act.put, pB, pC, pD]; rfl
        iterate 4
          refine ord_pureG rfl rfl rfl rfl rfl (fun _ _ _ _ h => h) ?_ ?_ ?_ ?_ ?_
          rotate_left 2
          · intro w'; go_simp; with_reducible rfl
          · simp only [Act.put, pB, pC, pD]; rfl
        refine ord_readG rfl rfl rfl rfl rfl (fun _ _ _ _ h => h) ?_ ?_ ?_ ?_ ?_
        rotate_left 2
        · intro w' hg; have q := hg.cell y3 (fun h => h); go_simp; with_reducible rfl
        · simp only [Act.put, pB, pC, pD]; rfl
        iterate 2
          refine ord_pureG rfl rfl rfl rfl rfl (fun _ _ _ _ h => h) ?_ ?_ ?_ ?_ ?_
          rotate_left 2
          · intro w'; go_simp; with_reducible rfl
          · simp only [Act.put, pB, pC, pD]; rfl
        iterate 2
          refine ord_pure rfl rfl rfl rfl rfl (fun _ _ _ _ h => h) ?_ ?_ ?_ ?_ ?_
          rotate_left 2
          · intro w'; go_simp; with_reducible rfl
          · simp only [Act.put, pB, pC, pD]; rfl
        iterate 4
          refine ord_pureG rfl rfl rfl rfl rfl (fun _ _ _ _ h => h) ?_ ?_ ?_ ?_ ?_
          rotate_left 2
          · intro w'; go_simp; with_reducible rfl
          · simp only [Act.put, pB, pC, pD]; rfl
        refine ord_readG rfl rfl rfl rfl rfl (fun _ _ _ _ h => h) ?_ ?_ ?_ ?_ ?_
        rotate_left 2
        · intro w' hg; have q := hg.cell y6 (fun h => h); go_simp; with_reducible rfl
        · simp only [Act.put, pB, pC, pD]; rfl
        refine ord_readG rfl rfl rfl rfl rfl (fun _ _ _ _ h => h) ?_ ?_ ?_ ?_ ?_
        rotate_left 2
        · intro w' hg; have q := conv_str (HB6.out.grow ((Keep.refl NoB wr).drew.grow hg)); go_simp; with_reducible rfl
        · simp only [Act.put, pB, pC, pD]; rfl
        iterate 2
          refine ord_pureG rfl rfl rfl rfl rfl (fun _ _ _ _ h => h) ?_ ?_ ?_ ?_ ?_
          rotate_left 2
          · intro w'; go_simp; with_reducible rfl
          · simp only [Act.put, pB, pC, pD]; rfl
        refine ord_callG rfl rfl rfl rfl rfl Tryz.func31 rfl rfl [.slice Aa a.length ca, .int .i64 (i : Nat)] rfl ?_
        refine HCH.out.mono ?_
        rintro e w10 ⟨A10, c10, rfl, hg10, hb10⟩
        refine ⟨_, rfl, fun _ => hg10, ?_⟩
        have HB10 := Lib.hid hb10
        have hg11 := (Keep.refl NoB wr).drew.grow hg10
        have HGR2 := Lib.hid (HGR.out.grow hg11)
        have y4' := hg11.cell y4 (fun h => h)
        have m2' := hg11.cell m2 (fun h => h)
        clear hg10 hb10 hg11 y0 y1 y2 y3 y4 y5 y6 m0 m1 m2 mf hcs HCH
        simp only [Act.put, pB, pC, pD]
        refine ord_readG rfl rfl rfl rfl rfl (fun _ _ _ _ h => h) ?_ ?_ ?_ ?_ ?_
        rotate_left 2
        · intro w' hg; have q := conv_str (HB10.out.grow hg); go_simp; with_reducible rfl
        · simp only [Act.put, pB, pC, pD]; rfl
        refine ord_pureG rfl rfl rfl rfl rfl (fun _ _ _ _ h => h) ?_ ?_ ?_ ?_ ?_
        rotate_left 2
        · intro w'; go_simp; with_reducible rfl
        · simp only [Act.put, pB, pC, pD]; rfl
        iterate 2
          refine ord_pure rfl rfl rfl rfl rfl (fun _ _ _ _ h => h) ?_ ?_ ?_ ?_ ?_
          rotate_left 2
          · intro w'; go_simp; with_reducible rfl
          · simp only [Act.put, pB, pC, pD]; rfl
        iterate 4
          refine ord_pureG rfl rfl rfl rfl rfl (fun _ _ _ _ h => h) ?_ ?_ ?_ ?_ ?_
          rotate_left 2
          · intro w'; go_simp; with_reducible rfl
          · simp only [Act.put, pB, pC, pD]; rfl
        refine ord_readG rfl rfl rfl rfl rfl (fun _ _ _ _ h => h) ?_ ?_ ?_ ?_ ?_
        rotate_left 2
        · intro w' hg; have q := hg.cell y4' (fun h => h); go_simp; with_reducible rfl
        · simp only [Act.put, pB, pC, pD]; rfl
        refine ord_pureG rfl rfl rfl rfl rfl (fun _ _ _ _ h => h) ?_ ?_ ?_ ?_ ?_
        rotate_left 2
        · intro w'; go_simp; with_reducible rfl
        · simp only [Act.put, pB, pC, pD]; rfl
        refine ord_readG rfl rfl rfl rfl rfl (fun _ _ _ _ h => h) ?_ ?_ ?_ ?_ ?_
        rotate_left 2
        · intro w' hg; have q := hg.cell m2' (fun h => h); go_simp; with_reducible rfl
        · simp only [Act.put, pB, pC, pD]; rfl
        refine ord_pureG rfl rfl rfl rfl rfl (fun _ _ _ _ h => h) ?_ ?_ ?_ ?_ ?_
        rotate_left 2
        · intro w'; go_simp; with_reducible rfl
        · simp only [Act.put, pB, pC, pD]; rfl
        refine ord_pure rfl rfl rfl rfl rfl (fun _ _ _ _ h => h) ?_ ?_ ?_ ?_ ?_
        rotate_left 2
        · intro w'; go_simp; with_reducible rfl
        · simp only [Act.put, pB, pC, pD]; rfl
        refine ord_nil ?_
        go_wp2
        go_roundw
        case rel => exact ⟨i + 1, by omega, by go_num, HGR2⟩
        case measure => simp [intOf]; omega
      · obtain rfl : i = m := by omega
        have hil' : ¬ ((i : Int) < (i : Int)) := by omega
        replace HG := Lib.hid (HG.out.grow HGR.out)
        go_wp2_with fail
        refine (known_true _).mono ?_
        rintro e w12 ⟨rfl, hg⟩
        replace HG := Lib.hid (HG.out.grow hg)
        clear hg
        go_wp2
        go_ret
        exact ⟨rfl, HG.out⟩
  · have hnb2 : ((m : Int) != (q : Int)) = false := by have := HM.out; rw [bne_eq_false_iff_eq]; omega
    go_wp2_with fail
    refine HW8.out.mono ?_
    rintro e w9 ⟨rfl, rfl⟩
    clear x0
    go_wp2_with fail
    go_loopw [19] (fun v wr => ∃ i : Nat, i ≤ m ∧ v = .int .i64 i ∧ Hid (Grow w8 wr)) (fun v _ => m - (intOf v).toNat)
    case atStart => exact ⟨0, by omega, rfl, Keep.refl _ _⟩
    case round =>
      obtain ⟨i, hi, rfl, HGR⟩ := hrel
      by_cases hil : i < m
      · have hil' : (i : Int) < m := by omega
        have hwi : IntKind.i64.wrap ((i : Int) + 1) = (i : Int) + 1 := IntWalk.i64_in _ (by omega)
        have hir : i < rows.length := by rw [HRL.out]; exact hil
        obtain ⟨r, hAr, y0, y1, y2, y3, y4, y5, y6⟩ := (HOUT.out.grow HGR.out).at_ i hir
        have hro := (HOUT.out.grow HGR.out).ro.now rows[i] (List.getElem_mem hir)
        have hrow := HRI.out i hir
        obtain ⟨v5, v6, hv56⟩ : ∃ v5 v6, rows[i].2 = (v5, v6) := ⟨_, _, rfl⟩
        rw [hrow] at y0 y1 y2 y3 y4
        rw [Nat.mul_comm 7 i] at y0 y1 y2 y3 y4 y5 y6
        rw [hv56] at y5 y6
        have hb6 : SliceR 1 v6 (chunkP a i).length (u8s (chunkP a i)) wr := by
          have := hro.2
          rw [hrow, hv56] at this
          exact this
        obtain ⟨A6, c6, rfl⟩ := hb6.cut
        have HB6 := Lib.hid hb6
        have hcs := conv_str hb6
        have hmc := Grow.heap HGR.out HMC.out
        obtain ⟨m0, m1, m2, mf⟩ := cells3 hmc
        have HCH := Lib.hid (rchunk_calls a HO.out HFIT.out HFL.out i (chunk_in i (Nat.lt_of_lt_of_le hil HMQ.out)) Aa ca wr.drew (HR.out.grow (HGR.out.drew)).now)
        subst hAr
        clear hro hrow hv56 hmc hb6
        go_wp2
        refine region_ord [0, 1, 2, 3, 4, 5, 6, 7, 8, 9, 10, 11, 12, 13, 14, 15, 16, 17, 18, 19, 20, 21, 22, 23, 24, 25, 26, 27, 28, 29, 30, 31, 32, 33, 34, 35, 36, 37, 38, 39, 40, 41, 42, 43, 44, 45, 46] [33] [4, 11, 20, 29, 30, 34, 42, 44] [] rfl (by kernel_rfl) ?_
        iterate 4
          refine ord_pure rfl rfl rfl rfl rfl (fun _ _ _ _ h => h) ?_ ?_ ?_ ?_ ?_
          rotate_left 2
          · intro w'; go_simp; with_reducible rfl
          · simp only [Act.put, pB, pC, pD]; rfl
        refine ord_read rfl rfl rfl rfl rfl (fun _ _ _ _ h => h) ?_ ?_ ?_ ?_ ?_
        rotate_left 2
        · intro w' hg; have q := hg.cell y0 (fun h => h); go_simp; with_reducible rfl
        · simp only [Act.put, pB, pC, pD]; rfl
        iterate 2
          refine ord_pure rfl rfl rfl rfl rfl (fun _ _ _ _ h => h) ?_ ?_ ?_ ?_ ?_
          rotate_left 2
          · intro w'; go_simp; with_reducible rfl
          · simp only [Act.put, pB, pC, pD]; rfl
        iterate 4
          refine ord_pureG rfl rfl rfl rfl rfl (fun _ _ _ _ h => h) ?_ ?_ ?_ ?_ ?_
          rotate_left 2
          · intro w'; go_simp; with_reducible rfl
          · simp only [Act.put, pB, pC, pD]; rfl
        refine ord_readG rfl rfl rfl rfl rfl (fun _ _ _ _ h => h) ?_ ?_ ?_ ?_ ?_
        rotate_left 2
        · intro w' hg; have q := hg.cell y2 (fun h => h); go_simp; with_reducible rfl
        · simp only [Act.put, pB, pC, pD]; rfl
        iterate 2
          refine ord_pureG rfl rfl rfl rfl rfl (fun _ _ _ _ h => h) ?_ ?_ ?_ ?_ ?_
          rotate_left 2
          · intro w'; go_simp; with_reducible rfl
          · simp only [Act.put, pB, pC, pD]; rfl
        iterate 2
          refine ord_pure rfl rfl rfl rfl rfl (fun _ _ _ _ h => h) ?_ ?_ ?_ ?_ ?_
          rotate_left 2
          · intro w'; go_simp; with_reducible rfl
          · simp only [Act.put, pB, pC, pD]; rfl
        iterate 4
          refine ord_pureG rfl rfl rfl rfl rfl (fun _ _ _ _ h => h) ?_ ?_ ?_ ?_ ?_
          rotate_left 2
          · intro w'; go_simp; with_reducible rfl
          · simp only [Act.put, pB, pC, pD]; rfl
        refine ord_readG rfl rfl rfl rfl rfl (fun _ _ _ _ h => h) ?_ ?_ ?_ ?_ ?_
        rotate_left 2
        · intro w' hg; have q := hg.cell y3 (fun h => h); go_simp; with_reducible rfl
        · simp only [Act.put, pB, pC, pD]; rfl
        iterate 2
          refine ord_pureG rfl rfl rfl rfl rfl (fun _ _ _ _ h => h) ?_ ?_ ?_ ?_ ?_
          rotate_left 2
          · intro w'; go_simp; with_reducible rfl
          · simp only [Act.put, pB, pC, pD]; rfl
        iterate 2
          refine ord_pure rfl rfl rfl rfl rfl (fun _ _ _ _ h => h) ?_ ?_ ?_ ?_ ?_
          rotate_left 2
          · intro w'; go_simp; with_reducible rfl
          · simp only [Act.put, pB, pC, pD]; rfl
        iterate 4
          refine ord_pureG rfl rfl rfl rfl rfl (fun _ _ _ _ h => h) ?_ ?_ ?_ ?_ ?_
          rotate_left 2
          · intro w'; go_simp; with_reducible rfl
          · simp only [Act.put, pB, pC, pD]; rfl
        refine ord_readG rfl rfl rfl rfl rfl (fun _ _ _ _ h => h) ?_ ?_ ?_ ?_ ?_
        rotate_left 2
        · intro w' hg; have q := hg.cell y6 (fun h => h); go_simp; with_reducible rfl
        · simp only [Act.put, pB, pC, pD]; rfl
        refine ord_readG rfl rfl rfl rfl rfl (fun _ _ _ _ h => h) ?_ ?_ ?_ ?_ ?_
        rotate_left 2
        · intro w' hg; have q := conv_str (HB6.out.grow ((Keep.refl NoB wr).drew.grow hg)); go_simp; with_reducible rfl
        · simp only [Act.put, pB, pC, pD]; rfl
        iterate 2
          refine ord_pureG rfl rfl rfl rfl rfl (fun _ _ _ _ h => h) ?_ ?_ ?_ ?_ ?_
          rotate_left 2
          · intro w'; go_simp; with_reducible rfl
          · simp only [Act.put, pB, pC, pD]; rfl
        refine ord_callG rfl rfl rfl rfl rfl Tryz.func31 rfl rfl [.slice Aa a.length ca, .int .i64 (i : Nat)] rfl ?_
        refine HCH.out.mono ?_
        rintro e w10 ⟨A10, c10, rfl, hg10, hb10⟩
        refine ⟨_, rfl, fun _ => hg10, ?_⟩
        have HB10 := Lib.hid hb10
        have hg11 := (Keep.refl NoB wr).drew.grow hg10
        have HGR2 := Lib.hid (HGR.out.grow hg11)
        have y4' := hg11.cell y4 (fun h => h)
        have m2' := hg11.cell m2 (fun h => h)
        clear hg10 hb10 hg11 y0 y1 y2 y3 y4 y5 y6 m0 m1 m2 mf hcs HCH
        simp only [Act.put, pB, pC, pD]
        refine ord_readG rfl rfl rfl rfl rfl (fun _ _ _ _ h => h) ?_ ?_ ?_ ?_ ?_
        rotate_left 2
        · intro w' hg; have q := conv_str (HB10.out.grow hg); go_simp; with_reducible rfl
        · simp only [Act.put, pB, pC, pD]; rfl
        refine ord_pureG rfl rfl rfl rfl rfl (fun _ _ _ _ h => h) ?_ ?_ ?_ ?_ ?_
        rotate_left 2
        · intro w'; go_simp; with_reducible rfl
        · simp only [Act.put, pB, pC, pD]; rfl
        iterate 2
          refine ord_pure rfl rfl rfl rfl rfl (fun _ _ _ _ h => h) ?_ ?_ ?_ ?_ ?_
          rotate_left 2
          · intro w'; go_simp; with_reducible rfl
          · simp only [Act.put, pB, pC, pD]; rfl
        iterate 4
          refine ord_pureG rfl rfl rfl rfl rfl (fun _ _ _ _ h => h) ?_ ?_ ?_ ?_ ?_
          rotate_left 2
          · intro w'; go_simp; with_reducible rfl
          · simp only [Act.put, pB, pC, pD]; rfl
        refine ord_readG rfl rfl rfl rfl rfl (fun _ _ _ _ h => h) ?_ ?_ ?_ ?_ ?_
        rotate_left 2
        · intro w' hg; have q := hg.cell y4' (fun h => h); go_simp; with_reducible rfl
        · simp only [Act.put, pB, pC, pD]; rfl
        refine ord_pureG rfl rfl rfl rfl rfl (fun _ _ _ _ h => h) ?_ ?_ ?_ ?_ ?_
        rotate_left 2
        · intro w'; go_simp; with_reducible rfl
        · simp only [Act.put, pB, pC, pD]; rfl
        refine ord_readG rfl rfl rfl rfl rfl (fun _ _ _ _ h => h) ?_ ?_ ?_ ?_ ?_
        rotate_left 2
        · intro w' hg; have q := hg.cell m2' (fun h => h); go_simp; with_reducible rfl
        · simp only [Act.put, pB, pC, pD]; rfl
        refine ord_pureG rfl rfl rfl rfl rfl (fun _ _ _ _ h => h) ?_ ?_ ?_ ?_ ?_
        rotate_left 2
        · intro w'; go_simp; with_reducible rfl
        · simp only [Act.put, pB, pC, pD]; rfl
        refine ord_pure rfl rfl rfl rfl rfl (fun _ _ _ _ h => h) ?_ ?_ ?_ ?_ ?_
        rotate_left 2
        · intro w'; go_simp; with_reducible rfl
        · simp only [Act.put, pB, pC, pD]; rfl
        refine ord_nil ?_
        go_wp2
        go_roundw
        case rel => exact ⟨i + 1, by omega, by go_num, HGR2⟩
        case measure => simp [intOf]; omega
      · obtain rfl : i = m := by omega
        have hil' : ¬ ((i : Int) < (i : Int)) := by omega
        replace HG := Lib.hid (HG.out.grow HGR.out)
        go_wp2_with fail
        refine (known_true _).mono ?_
        rintro e w12 ⟨rfl, hg⟩
        replace HG := Lib.hid (HG.out.grow hg)
        clear hg
        go_wp2
        go_ret
        exact ⟨rfl, HG.out⟩
end Go.Proofs.YtfkcpaahdlkcdaaGreat

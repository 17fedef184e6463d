import Derived.Test.YtfkcpaahdlkcdaaGreatRRecvQuota08
import Derived.Test.YtfkcpaahdlkcdaaGreatRRecvQuota14
set_option linter.unusedSimpArgs false
set_option linter.unusedVariables false
set_option maxRecDepth 100000
set_option maxHeartbeats 16000000
namespace Go.Proofs.YtfkcpaahdlkcdaaGreat
open Go.RowKit
def offN (sz : List Int) (k : Nat) : Nat := ((sz.take k).sum).toNat
def rowAt (ws sz : List Int) (k : Nat) : List Int := (ws.drop (offN sz k)).take (sz.getD k 0).toNat
def arenaW (ws sz : List Int) : List (List Int) := (List.range sz.length).map (rowAt ws sz)
theorem arenaW_length (ws sz : List Int) : (arenaW ws sz).length = sz.length := by simp [arenaW]
theorem arenaW_take (ws sz : List Int) (k : Nat) (hk : k < sz.length) : (arenaW ws sz).take (k + 1) = (arenaW ws sz).take k ++ [rowAt ws sz k] := by
 rw [List.take_succ_eq_append_getElem (by rw [arenaW_length]; exact hk)]
 congr 1
 simp [arenaW]
theorem offN_succ {sz : List Int} (hnn : ∀ x ∈ sz, 0 ≤ x) (k : Nat) (hk : k < sz.length) : offN sz (k + 1) = offN sz k + (sz[k]).toNat := by
 unfold offN
 rw [sum_take_succ hk]
 have h1 := hnn _ (List.getElem_mem hk)
 have h2 : 0 ≤ (sz.take k).sum := sum_nn (fun x hx => hnn x (List.mem_of_mem_take hx))
 omega
theorem offN_le {sz : List Int} (hnn : ∀ x ∈ sz, 0 ≤ x) (k : Nat) : offN sz k ≤ sz.sum.toNat := by
 unfold offN
 have := sum_take_le hnn k
 omega
theorem rowAt_length {ws sz : List Int} (hnn : ∀ x ∈ sz, 0 ≤ x) (hl : (ws.length : Int) = sz.sum) (k : Nat) (hk : k < sz.length) : (rowAt ws sz k).length = (sz[k]).toNat := by
 unfold rowAt
 have h1 := offN_succ hnn k hk
 have h2 := offN_le hnn (k + 1)
 have e : sz.getD k 0 = sz[k] := by simp [List.getD_eq_getElem?_getD, hk]
 rw [List.length_take, List.length_drop, e]
 omega
theorem HdR.snoc {a : List (List Int)} {vs : List Value} {w : World} {r : List Int} {A : Option Addr} {c : Nat} (h : HdR a vs w) (hr : SliceR 1 (.slice A r.length c) r.length (u64s r) w) : HdR (a ++ [r]) (vs ++ [.slice A r.length c]) w := by
 refine ⟨by simp [h.1], fun i hi => ?_⟩
 by_cases hl : i < a.length
 ·obtain ⟨A', c', h1, h2⟩ := h.2 i hl
  refine ⟨A', c', ?_, ?_⟩
  ·rw [List.getElem?_append_left (by rw [h.1]; exact hl), List.getElem_append_left hl]; exact h1
  ·rw [List.getElem_append_left hl]; exact h2
 ·have hi2 : i = a.length := by simp at hi; omega
  subst hi2
  refine ⟨A, c, ?_, ?_⟩
  ·rw [List.getElem?_append_right (by rw [h.1]; omega)]; simp [h.1]
  ·simpa using hr
theorem sub_row {w : World} {cb : Nat} {ws : List Int} (hc : ∀ (j : Nat) u, (u64s ws)[j]? = some u → w.cell? ⟨cb, j, none⟩ = some u) (o off n : Nat) (ho : o = off ∨ n = 0) (hn : off + n ≤ ws.length) : SliceR 1 (.slice (some ⟨cb, o, none⟩) n n) n (u64s ((ws.drop off).take n)) w := by
 refine ⟨_, _, rfl, Nat.le_refl _, by simp [u64s]; omega, (fun e => by cases e), fun j u hu => ?_⟩
 have hj : j < n := by
  have := (List.getElem?_eq_some_iff.1 hu).1
  simp [u64s] at this
  omega
 rcases ho with rfl | rfl
 ·refine ⟨_, rfl, ?_⟩
  have e : (⟨cb, o, none⟩ : Addr).add j = ⟨cb, o + j, none⟩ := by
   unfold Addr.add
   split
   ·rename_i h; rw [h]; rfl
   ·rfl
  rw [e]
  refine hc (o + j) u ?_
  rw [← hu]
  simp [u64s, List.getElem?_take, hj]
 ·omega
theorem pwhole_no {b : Nat} {p : PP} {d : Par} {G : Nat → Prop} {w : World} (h : PAt b p d G w) (hno : popB d.known < chunksN d.sz) :
    Calls Tryz.prog 115 #[.pointer (some ⟨b, 0, none⟩)] w fun e w' => e = .returned (.tuple #[.slice none 0 0, .bool false]) ∧ Grow w w' := by
 have hlt : ((popB d.known : Nat) : Int) < (chunksN d.sz : Nat) := by omega
 have hkl : d.known.length ≤ 100000 := by have := fits_parts h.ok.fit; rw [h.ok.klen]; unfold chunksN; omega
 obtain ⟨c0, c1, c2, c3, c4, c5, cf⟩ := cells6' h.cell
 have HP := LH h
 clear h hno
 go_enter Tryz.func115, Tryz.ntmps115
 go_wp2
 refine region_ord [0, 1, 2, 3, 4, 5, 6, 7, 9, 10, 11, 12, 8, 13, 14, 15] [8, 13] [7, 12] [] rfl (by kernel_rfl) ?_
 iterate 3
  refine ord_pure rfl rfl rfl rfl rfl (fun _ _ _ _ h => h) ?_ ?_ ?_ ?_ ?_
  rotate_left 2
  ·intro w'; go_simp; with_reducible rfl
  ·simp only [Act.put, pB, pC, pD]; rfl
 iterate 4
  refine ord_pureG rfl rfl rfl rfl rfl (fun _ _ _ _ h => h) ?_ ?_ ?_ ?_ ?_
  rotate_left 2
  ·intro w'; go_simp; with_reducible rfl
  ·simp only [Act.put, pB, pC, pD]; rfl
 refine ord_readG rfl rfl rfl rfl rfl (fun _ _ _ _ h => h) ?_ ?_ ?_ ?_ ?_
 rotate_left 2
 ·intro w' hg; have q := hg.cell c5 (fun h => h); go_simp; with_reducible rfl
 ·simp only [Act.put, pB, pC, pD]; rfl
 iterate 3
  refine ord_pureG rfl rfl rfl rfl rfl (fun _ _ _ _ h => h) ?_ ?_ ?_ ?_ ?_
  rotate_left 2
  ·intro w'; go_simp; with_reducible rfl
  ·simp only [Act.put, pB, pC, pD]; rfl
 refine ord_readG rfl rfl rfl rfl rfl (fun _ _ _ _ h => h) ?_ ?_ ?_ ?_ ?_
 rotate_left 2
 ·intro w' hg; have q0 := hg.cell c0 (fun h => h); have q1 := hg.cell c1 (fun h => h); have q2 := hg.cell c2 (fun h => h); go_simp; with_reducible rfl
 ·simp only [Act.put, pB, pC, pD]; rfl
 have hcn := bcount_calls p.Ak p.ck d.known HP.out.ok.known hkl w.drew (HP.out.grow (Keep.refl NoB w).drew).ro.now.2
 refine ord_callG rfl rfl rfl rfl rfl Tryz.func116 rfl rfl [.slice p.Ak d.known.length p.ck] rfl ?_
 refine hcn.mono ?_
 rintro e w1 ⟨rfl, rfl⟩
 refine ⟨_, rfl, fun _ => Keep.refl _ _, ?_⟩
 simp only [Act.put, pB, pC, pD]
 have hcc := mchunks_calls d.session d.sum p.As p.cs d.sz w.drew (HP.out.grow (Keep.refl NoB w).drew).ro.now.1 HP.out.ok.fit
 refine ord_callG rfl rfl rfl rfl rfl Tryz.func64 rfl rfl [.agg #[.int .u64 d.session, .slice p.As d.sz.length p.cs, .int .u32 (d.sum : Nat)]] rfl ?_
 refine hcc.mono ?_
 rintro e w2 ⟨rfl, hg2⟩
 refine ⟨_, rfl, fun _ => hg2, ?_⟩
 simp only [Act.put, pB, pC, pD]
 refine ord_pureG rfl rfl rfl rfl rfl (fun _ _ _ _ h => h) ?_ ?_ ?_ ?_ ?_
 rotate_left 2
 ·intro w'; go_simp; with_reducible rfl
 ·simp only [Act.put, pB, pC, pD]; rfl
 refine ord_pure rfl rfl rfl rfl rfl (fun _ _ _ _ h => h) ?_ ?_ ?_ ?_ ?_
 rotate_left 2
 ·intro w'; go_simp; with_reducible rfl
 ·simp only [Act.put, pB, pC, pD]; rfl
 refine ord_nil ?_
 go_wp2
 go_ret2
 exact ⟨rfl, (Keep.refl NoB w).drew.grow hg2⟩
theorem PAt.cells {b : Nat} {As Ak : Option Addr} {cs wb cw ck : Nat} {d : Par} {G : Nat → Prop} {w : World} (h : PAt b ⟨As, cs, wb, cw, Ak, ck⟩ d G w) : w.cell? ⟨b, 0, none⟩ = some (.int .u64 d.session) ∧ w.cell? ⟨b, 1, none⟩ = some (.slice As d.sz.length cs) ∧ w.cell? ⟨b, 2, none⟩ = some (.int .u32 (d.sum : Nat)) ∧ w.cell? ⟨b, 3, none⟩ = some (.slice As d.sz.length cs) ∧ w.cell? ⟨b, 4, none⟩ = some (.slice (some ⟨wb, 0, none⟩) d.words.length cw) ∧ w.cell? ⟨b, 5, none⟩ = some (.slice Ak d.known.length ck) ∧ ∀ o, w.frozen? ⟨b, o, none⟩ = false := cells6' h.cell
theorem PAt.lt' {b : Nat} {As Ak : Option Addr} {cs wb cw ck : Nat} {d : Par} {G : Nat → Prop} {w : World} (h : PAt b ⟨As, cs, wb, cw, Ak, ck⟩ d G w) : b < w.heap.size ∧ wb < w.heap.size := h.lt
theorem pwhole_calls {b : Nat} {p : PP} {d : Par} {G : Nat → Prop} {w : World} (h : PAt b p d G w) (hall : chunksN d.sz ≤ popB d.known) :
    Calls Tryz.prog 115 #[.pointer (some ⟨b, 0, none⟩)] w fun e w' => ∃ A c F, e = .returned (.tuple #[.slice A (arenaW d.words d.sz).length c, .bool true]) ∧ Grow w w' ∧ Foot (RowsR .u64 (arenaW d.words d.sz) (.slice A (arenaW d.words d.sz).length c)) w' F ∧ ∀ k, F k → w.heap.size ≤ k := by
 have hlt : ¬ (((popB d.known : Nat) : Int) < (chunksN d.sz : Nat)) := by omega
 have hkl : d.known.length ≤ 100000 := by have := fits_parts h.ok.fit; rw [h.ok.klen]; unfold chunksN; omega
 obtain ⟨As, cs, wb, cw, Ak, ck⟩ := p
 obtain ⟨c0, c1, c2, c3, c4, c5, cf⟩ := h.cells
 have HP := LH h
 clear h hall
 go_enter Tryz.func115, Tryz.ntmps115
 go_wp2
 refine region_ord [0, 1, 2, 3, 4, 5, 6, 7, 9, 10, 11, 12, 8, 13, 14, 15] [8, 13] [7, 12] [] rfl (by kernel_rfl) ?_
 iterate 3
  refine ord_pure rfl rfl rfl rfl rfl (fun _ _ _ _ h => h) ?_ ?_ ?_ ?_ ?_
  rotate_left 2
  ·intro w'; go_simp; with_reducible rfl
  ·simp only [Act.put, pB, pC, pD]; rfl
 iterate 4
  refine ord_pureG rfl rfl rfl rfl rfl (fun _ _ _ _ h => h) ?_ ?_ ?_ ?_ ?_
  rotate_left 2
  ·intro w'; go_simp; with_reducible rfl
  ·simp only [Act.put, pB, pC, pD]; rfl
 refine ord_readG rfl rfl rfl rfl rfl (fun _ _ _ _ h => h) ?_ ?_ ?_ ?_ ?_
 rotate_left 2
 ·intro w' hg; have q := hg.cell c5 (fun h => h); go_simp; with_reducible rfl
 ·simp only [Act.put, pB, pC, pD]; rfl
 iterate 3
  refine ord_pureG rfl rfl rfl rfl rfl (fun _ _ _ _ h => h) ?_ ?_ ?_ ?_ ?_
  rotate_left 2
  ·intro w'; go_simp; with_reducible rfl
  ·simp only [Act.put, pB, pC, pD]; rfl
 refine ord_readG rfl rfl rfl rfl rfl (fun _ _ _ _ h => h) ?_ ?_ ?_ ?_ ?_
 rotate_left 2
 ·intro w' hg; have q0 := hg.cell c0 (fun h => h); have q1 := hg.cell c1 (fun h => h); have q2 := hg.cell c2 (fun h => h); go_simp; with_reducible rfl
 ·simp only [Act.put, pB, pC, pD]; rfl
 have hcn := bcount_calls Ak ck d.known HP.out.ok.known hkl w.drew (HP.out.grow (Keep.refl NoB w).drew).ro.now.2
 refine ord_callG rfl rfl rfl rfl rfl Tryz.func116 rfl rfl [.slice Ak d.known.length ck] rfl ?_
 refine hcn.mono ?_
 rintro e w1 ⟨rfl, rfl⟩
 refine ⟨_, rfl, fun _ => Keep.refl _ _, ?_⟩
 simp only [Act.put, pB, pC, pD]
 have hcc := mchunks_calls d.session d.sum As cs d.sz w.drew (HP.out.grow (Keep.refl NoB w).drew).ro.now.1 HP.out.ok.fit
 refine ord_callG rfl rfl rfl rfl rfl Tryz.func64 rfl rfl [.agg #[.int .u64 d.session, .slice As d.sz.length cs, .int .u32 (d.sum : Nat)]] rfl ?_
 refine hcc.mono ?_
 rintro e w2 ⟨rfl, hg2⟩
 refine ⟨_, rfl, fun _ => hg2, ?_⟩
 simp only [Act.put, pB, pC, pD]
 refine ord_pureG rfl rfl rfl rfl rfl (fun _ _ _ _ h => h) ?_ ?_ ?_ ?_ ?_
 rotate_left 2
 ·intro w'; go_simp; with_reducible rfl
 ·simp only [Act.put, pB, pC, pD]; rfl
 refine ord_pure rfl rfl rfl rfl rfl (fun _ _ _ _ h => h) ?_ ?_ ?_ ?_ ?_
 rotate_left 2
 ·intro w'; go_simp; with_reducible rfl
 ·simp only [Act.put, pB, pC, pD]; rfl
 refine ord_nil ?_
 have hg := (Keep.refl NoB w).drew.grow hg2
 have HG := LH hg
 replace HP := LH (HP.out.grow hg)
 have hfp := fits_parts HP.out.ok.fit
 have hn9 : d.words.length ≤ 4096 := by have := HP.out.ok.wlen; omega
 have hsz9 : d.sz.length ≤ 16 := hfp.2.1
 have HNN := LH hfp.2.2.1
 clear hg hg2 hcn hcc hkl c0 c1 c2 c3 c4 c5 cf hfp
 obtain ⟨c0, c1, c2, c3, c4, c5, cf⟩ := HP.out.cells
 go_wp2_with fail
 refine (clone64_calls (.slice (some ⟨wb, 0, none⟩) d.words.length cw) d.words w2 (SliceR.of_own HP.out.row) (by omega)).mono ?_
 rintro e w3 ⟨A3, C3, rfl, ho3, hg3⟩
 have hN1 : 1 ≤ d.words.length := by
  have h1 := HP.out.ok.wlen
  have h2 := HP.out.ok.fit
  unfold fitsB at h2
  simp only [decide_eq_true_eq] at h2
  have h3 := sum_take_le HNN.out 1
  have h4 := h2.2.2.1
  cases hz : d.sz with
  | nil => rw [hz] at h2; simp at h2
  | cons x r => rw [hz] at h3 h4 h1; simp at h3 h4 h1; omega
 obtain ⟨A', C', e', hnc, hA', hA0⟩ := own_slice ho3
 injection e' with e1 e2 e3
 subst e1; subst e3
 obtain ⟨cb, rfl⟩ : ∃ cb, A3 = some ⟨cb, 0, none⟩ := by
  cases A3 with
  | none => have := hA0 rfl; omega
  | some ad => exact ⟨ad.block, by have := hA' ad.block rfl; exact this⟩
 have hcb := ho3.lt cb rfl
 have HNC : Hid (d.words.length ≤ C3) := LH hnc
 have HCB : Hid (w2.heap.size ≤ cb ∧ cb < w3.heap.size) := LH hcb
 have HCL : Hid (Foot (fun u => ∀ (j : Nat) v, (u64s d.words)[j]? = some v → u.cell? ⟨cb, j, none⟩ = some v) w3 (fun k => k = cb)) := LH ((Foot.of_own ho3).imp (fun u hu j v hv => by
  obtain ⟨A9, c9, e9, _, _, _, hq⟩ := hu
  injection e9 with e9
  subst e9
  obtain ⟨ad, had, hcell⟩ := hq j v hv
  injection had with had
  subst had
  rw [addr0_add] at hcell
  exact hcell) |>.mono (fun k hk => by rw [hk]; exact hcb.2) (fun k hk => by cases hk; rfl))
 have HZ : Hid (w.heap.size ≤ w2.heap.size) := LH HG.out.size
 replace HG := LH (HG.out.grow hg3)
 replace HP := LH (HP.out.grow hg3)
 clear hlt ho3 hg3 hnc hA' hA0 hcb c0 c1 c2 c3 c4 c5 cf
 obtain ⟨c0, c1, c2, c3, c4, c5, cf⟩ := HP.out.cells
 go_wp2_with fail
 clear c0 c1 c2 c3 c4 c5 cf
 have HO0 : Hid (w3.ownsRow w3.heap.size 111 1 (.slice none 0 0) 0 [] ∧ Foot (HdR ((arenaW d.words d.sz).take 0) []) w3 (fun j => j = cb)) := LH ⟨World.ownsRow_nil _ _ _ _, ⟨fun k hk => by rw [hk]; exact HCB.out.2, fun u _ => ⟨rfl, fun i hi => by simp at hi⟩⟩⟩
 go_loopw [4, 5, 7, 36] (fun v4 v5 v7 v wr => ∃ (k o m cr : Nat) (A4 : Option Addr) (c4 : Nat) (vs : List Value), k ≤ d.sz.length ∧ v = .int .i64 k ∧ v4 = .slice A4 k c4 ∧ v5 = .slice (some ⟨cb, o, none⟩) m cr ∧ m + offN d.sz k = d.words.length ∧ m ≤ cr ∧ (o = offN d.sz k ∨ cr = 0) ∧ Hid (PAt b ⟨As, cs, wb, cw, Ak, ck⟩ d G wr ∧ Grow w wr ∧ w3.heap.size ≤ wr.heap.size ∧ Foot (fun u => ∀ (j : Nat) v, (u64s d.words)[j]? = some v → u.cell? ⟨cb, j, none⟩ = some v) wr (fun k => k = cb) ∧ wr.ownsRow w3.heap.size 111 1 (.slice A4 k c4) k vs ∧ Foot (HdR ((arenaW d.words d.sz).take k) vs) wr (fun j => j = cb))) (fun _ _ _ v _ => d.sz.length - (intOf v).toNat)
 case atStart => exact ⟨0, 0, d.words.length, C3, none, 0, [], by omega, rfl, rfl, rfl, by simp [offN], HNC.out, .inl (by simp [offN]), LH ⟨HP.out, HG.out, Nat.le_refl _, HCL.out, HO0.out.1, HO0.out.2⟩⟩
 case round =>
  clear HO0
  obtain ⟨k, o, m, cr, A4, c4, vs, hk, rfl, rfl, rfl, hm, hmc, ho, HR⟩ := hrel
  have HOO := LH ho
  clear ho
  by_cases hlt : k < d.sz.length
  ·have hlt' : (k : Int) < d.sz.length := by omega
   have hw : IntKind.i64.wrap ((k : Int) + 1) = (k : Int) + 1 := IntWalk.i64_in _ (by omega)
   obtain ⟨ad, rfl, q1⟩ := SliceR.int_at (k := .i64) (show SliceR 1 (.slice As d.sz.length cs) d.sz.length (ints d.sz) wr from HR.out.1.ro.now.1) k hlt
   have hx0 := HNN.out _ (List.getElem_mem hlt)
   obtain ⟨nn, hnn⟩ : ∃ nn : Nat, d.sz[k] = nn := ⟨d.sz[k].toNat, by omega⟩
   have hof := offN_succ HNN.out k hlt
   have hofl := offN_le HNN.out (k + 1)
   rw [hnn] at hof q1
   have hwl := HP.out.ok.wlen
   have hnm : nn ≤ m := by omega
   have hin : 0 ≤ (nn : Int) ∧ (nn : Int) ≤ cr := by omega
   have hin2 : 0 ≤ (nn : Int) ∧ (nn : Int) ≤ m := by omega
   have hrl := rowAt_length HNN.out HP.out.ok.wlen k hlt
   rw [hnn] at hrl
   have HOF := LH hof
   have HRL : Hid ((rowAt d.words d.sz k).length = nn) := LH (by omega)
   have HM := LH hm
   clear hof hofl hwl hrl hx0 hm
   go_wp2_with (at_builtin; refine wpList_app _ rfl _ _ 29 29 rfl w3.heap.size 111 (.slice none 0 0) 1 24 u_arena info_words rfl (.slice A4 k c4) k vs rfl (.slice (some ⟨wr.heap.size, 0, none⟩) 1 1) 1 [.slice (some ⟨cb, o, none⟩) nn nn] rfl ?_ (by exact own_keep HR.out.2.2.2.2.1 ((Keep.refl NoB wr).alloc _) (fun _ _ h => h)) (by exact Src.ofSlice _ u_arena ⟨wr.heap.size, 0, none⟩ 1 1 _ rfl (World.news_of_block (cs := #[.slice (some ⟨cb, o, none⟩) nn nn]) (t := 111) (fr := (0, 0)) (heap_alloc_new wr _)) (by simp [Value.oneCell'])) (by simp only [maxLen]; omega) (by omega) (by have := HR.out.2.2.1; simp; omega); intro v7 w7 hap; refine Hid.out ?_)
   refine LH ?_
   have hk7 : Keep (fun j => (Value.slice A4 k c4).ownBlock = some j) wr w7 := ((Keep.refl (fun j => (Value.slice A4 k c4).ownBlock = some j) wr).alloc _).grown hap.grew (fun j hj => .inl hj)
   have hge : ∀ j, (Value.slice A4 k c4).ownBlock = some j → w3.heap.size ≤ j := fun j hj => (HR.out.2.2.2.2.1.lt j hj).1
   have hpl := HP.out.lt'
   have hP7 := HR.out.1.keep hk7 (fun e => by have := hge b e; omega) (fun e => by have := hge wb e; omega) (fun j hj e => by have := hge j e; have := HP.out.ro.lt hj; omega)
   have hG7 : Grow w w7 := HR.out.2.1.trans hk7 (fun j hj => .inr (by have := hge j hj; have := HG.out.size; omega))
   have hC7 := HR.out.2.2.2.1.keep hk7 (fun j hj e => by have := hge j e; have e2 : j = cb := hj; have := HCB.out.2; omega)
   have hd7 := HR.out.2.2.2.2.2.keep hk7 (fun j hj e => by have := hge j e; have e2 : j = cb := hj; have := HCB.out.2; omega)
   have hgd : (d.sz.getD k 0).toNat = nn := by rw [List.getD_eq_getElem?_getD, List.getElem?_eq_getElem hlt, Option.getD_some, hnn]; rfl
   have hsn : Foot (HdR ((arenaW d.words d.sz).take (k + 1)) (vs ++ [.slice (some ⟨cb, o, none⟩) nn nn])) w7 (fun j => j = cb) := ((hd7.and hC7).imp (fun u hu => by
    rw [arenaW_take d.words d.sz k hlt]
    have hs := sub_row hu.2 o (offN d.sz k) nn (by rcases HOO.out with e | e; exact .inl e; exact .inr (by omega)) (by have := HM.out; omega)
    have h9 := hu.1.snoc (r := rowAt d.words d.sz k) (A := some ⟨cb, o, none⟩) (c := nn) (by rw [HRL.out]; unfold rowAt; rw [hgd]; exact hs)
    rw [HRL.out] at h9
    exact h9)).mono (fun j hj => by have e2 : j = cb := hj; have := HCB.out.2; have := hk7.size; have := HR.out.2.2.1; omega) (fun j hj => hj.elim id id)
   have hs7 := hk7.size
   obtain ⟨A7, c7, rfl, _⟩ := own_slice hap.own
   have HN := LH (And.intro hP7 (And.intro hG7 (And.intro (Nat.le_trans HR.out.2.2.1 hs7) (And.intro hC7 (And.intro hap.own hsn)))))
   clear hk7 hge hpl hP7 hG7 hC7 hd7 hgd hsn hap hs7
   by_cases hcn : cr = nn
   ·go_wp2
    go_roundw
    case rel => exact ⟨k + 1, o, m - nn, 0, A7, c7, _, by omega, by go_num, rfl, rfl, by have := HM.out; have := HOF.out; omega, by omega, .inr rfl, HN⟩
    case measure => simp [intOf]; omega
   ·have hcn2 : ¬ (nn = cr) := fun e => hcn e.symm
    go_wp2
    go_roundw
    case rel => exact ⟨k + 1, o + nn, m - nn, cr - nn, A7, c7, _, by omega, by go_num, rfl, rfl, by have := HM.out; have := HOF.out; omega, by omega, .inl (by have := HOF.out; rcases HOO.out with e | e <;> omega), HN⟩
    case measure => simp [intOf]; omega
  ·obtain rfl : k = d.sz.length := by omega
   have hlt' : ¬ ((d.sz.length : Int) < d.sz.length) := by omega
   go_wp2
   go_ret2
   have hl := arenaW_length d.words d.sz
   have ho9 := HR.out.2.2.2.2.1
   have hd9 := HR.out.2.2.2.2.2
   rw [List.take_of_length_le (by rw [hl]; omega)] at hd9
   rw [← hl] at ho9
   refine ⟨A4, c4, by rw [hl]; rfl, HR.out.2.1, fun j => (Value.slice A4 (arenaW d.words d.sz).length c4).ownBlock = some j ∨ j = cb, ?_, ?_⟩
   ·exact ((Foot.of_own ho9).and hd9).imp (fun u hu => RowsR.of_slice hu.1 hu.2)
   ·rintro j (e | e)
    ·have := (ho9.lt j e).1; have := HG.out.size; omega
    ·have := HCB.out.1; have := HZ.out; omega
theorem equali_calls (A1 A2 : Option Addr) (c1 c2 : Nat) (l1 l2 : List Int) (h9 : l1.length ≤ 1000000) (w : World) (h1 : SliceR 1 (.slice A1 l1.length c1) l1.length (ints l1) w) (h2 : SliceR 1 (.slice A2 l2.length c2) l2.length (ints l2) w) :
    Calls Tryz.prog 256 #[.slice A1 l1.length c1, .slice A2 l2.length c2] w fun e w' => e = .returned (.bool (decide (l1 = l2))) ∧ Grow w w' := by
 by_cases hl : l1.length = l2.length
 case neg =>
  have hb : (((l1.length : Nat) : Int) != ((l2.length : Nat) : Int)) = true := by simp; omega
  have HE : Hid (decide (l1 = l2) = false) := LH (decide_eq_false (fun e => hl (by rw [e])))
  clear h1 h2
  go_enter Tryz.func256, Tryz.ntmps256
  go_wp2
  go_ret
  exact ⟨by rw [HE.out]; rfl, Keep.refl _ _⟩
 have hb : (((l1.length : Nat) : Int) != ((l2.length : Nat) : Int)) = false := by simp; omega
 have H1 := LH h1
 have H2 := LH h2
 have HL := LH hl
 clear h1 h2 hl
 go_enter Tryz.func256, Tryz.ntmps256
 go_wp2
 clear hb
 go_loopw [5, 13] (fun v5 v wr => ∃ k : Nat, k ≤ l1.length ∧ v = .int .i64 k ∧ Hid (Grow w wr ∧ l1.take k = l2.take k)) (fun _ v _ => l1.length - (intOf v).toNat)
 case atStart => exact ⟨0, by omega, rfl, LH ⟨Keep.refl _ _, by simp⟩⟩
 case round =>
  obtain ⟨k, hk, rfl, HR⟩ := hrel
  by_cases hlt : k < l1.length
  ·have hlt' : (k : Int) < l1.length := by omega
   have hw : IntKind.i64.wrap ((k : Int) + 1) = (k : Int) + 1 := IntWalk.i64_in _ (by omega)
   have hlt2 : k < l2.length := by have := HL.out; omega
   have hlt2' : (k : Int) < l2.length := by omega
   have hk0 : 0 ≤ (k : Int) := by omega
   obtain ⟨ad1, rfl, q1⟩ := SliceR.int_at (k := .i64) (H1.out.grow HR.out.1) k hlt
   obtain ⟨ad2, rfl, q2⟩ := SliceR.int_at (k := .i64) (H2.out.grow HR.out.1) k hlt2
   have HT : Hid (l1[k] = l2[k] → l1.take (k + 1) = l2.take (k + 1)) := LH (fun e => by
    rw [List.take_succ_eq_append_getElem hlt, List.take_succ_eq_append_getElem hlt2, HR.out.2, e])
   have HF : Hid (l1[k] ≠ l2[k] → ¬ (l1 = l2)) := LH (fun e e2 => by subst e2; exact e rfl)
   generalize l1[k] = x1 at q1 HT HF
   generalize l2[k] = x2 at q2 HT HF
   go_wp2
   refine region_ord [0, 1, 2, 3, 4, 5, 6, 7, 8] [] [3, 7] [] rfl (by kernel_rfl) ?_
   iterate 3
    refine ord_pure rfl rfl rfl rfl rfl (fun _ _ _ _ h => h) ?_ ?_ ?_ ?_ ?_
    rotate_left 2
    ·intro w'; go_simp; with_reducible rfl
    ·simp only [Act.put, pB, pC, pD]; rfl
   refine ord_read rfl rfl rfl rfl rfl (fun _ _ _ _ h => h) ?_ ?_ ?_ ?_ ?_
   rotate_left 2
   ·intro w' hg; have q := hg.cell q1 (fun h => h); go_simp; with_reducible rfl
   ·simp only [Act.put, pB, pC, pD]; rfl
   iterate 3
    refine ord_pure rfl rfl rfl rfl rfl (fun _ _ _ _ h => h) ?_ ?_ ?_ ?_ ?_
    rotate_left 2
    ·intro w'; go_simp; with_reducible rfl
    ·simp only [Act.put, pB, pC, pD]; rfl
   refine ord_read rfl rfl rfl rfl rfl (fun _ _ _ _ h => h) ?_ ?_ ?_ ?_ ?_
   rotate_left 2
   ·intro w' hg; have q := hg.cell q2 (fun h => h); go_simp; with_reducible rfl
   ·simp only [Act.put, pB, pC, pD]; rfl
   refine ord_pure rfl rfl rfl rfl rfl (fun _ _ _ _ h => h) ?_ ?_ ?_ ?_ ?_
   rotate_left 2
   ·intro w'; go_simp; with_reducible rfl
   ·simp only [Act.put, pB, pC, pD]; rfl
   refine ord_nil ?_
   have HG := LH (HR.out.1.grow (Keep.refl NoB wr).drew)
   by_cases hx : x1 = x2
   ·have hxb : (x1 != x2) = false := by simp [hx]
    have HN := LH (And.intro HG.out (HT.out hx))
    clear hx
    go_wp2
    go_roundw
    case rel => exact ⟨k + 1, by omega, by go_num, HN⟩
    case measure => simp [intOf]; omega
   ·have hxb : (x1 != x2) = true := by simp [hx]
    have HN := LH (HF.out hx)
    clear hx
    go_wp2
    go_ret
    exact ⟨by rw [decide_eq_false HN.out]; rfl, HG.out⟩
  ·obtain rfl : k = l1.length := by omega
   have hlt' : ¬ ((l1.length : Int) < l1.length) := by omega
   have HN : Hid (l1 = l2) := LH (by
    have := HR.out.2
    rw [List.take_length, HL.out, List.take_length] at this
    exact this)
   go_wp2
   go_ret
   exact ⟨by rw [decide_eq_true HN.out]; rfl, HR.out.1⟩
theorem msame_calls (s1 s2 : Int) (m1 m2 : Nat) (A1 A2 : Option Addr) (c1 c2 : Nat) (l1 l2 : List Int) (h9 : l1.length ≤ 1000000) (w : World) (h1 : SliceR 1 (.slice A1 l1.length c1) l1.length (ints l1) w) (h2 : SliceR 1 (.slice A2 l2.length c2) l2.length (ints l2) w) :
    Calls Tryz.prog 222 #[.agg #[.int .u64 s1, .slice A1 l1.length c1, .int .u32 (m1 : Nat)], .agg #[.int .u64 s2, .slice A2 l2.length c2, .int .u32 (m2 : Nat)]] w fun e w' => e = .returned (.bool (decide (s1 = s2 ∧ m1 = m2 ∧ l1 = l2))) ∧ Grow w w' := by
 obtain ⟨ha, hb, hg⟩ := heap_two w (.cells #[.int .u64 s1, .slice A1 l1.length c1, .int .u32 (m1 : Nat)] 40) (.cells #[.int .u64 s2, .slice A2 l2.length c2, .int .u32 (m2 : Nat)] 40)
 obtain ⟨a0, a1, a2, af⟩ := cells3 ha
 obtain ⟨b0, b1, b2, bf⟩ := cells3 hb
 have HG := LH hg
 have HE := LH (equali_calls A1 A2 c1 c2 l1 l2 h9 _ (h1.grow hg) (h2.grow hg))
 clear h1 h2 ha hb hg
 by_cases hs : s1 = s2
 case neg =>
  have hsb : (s1 == s2) = false := by simp [hs]
  have HN := LH hs
  clear hs
  go_enter Tryz.func222, Tryz.ntmps222
  go_wp2
  go_ret
  exact ⟨by rw [decide_eq_false (fun h => HN.out h.1)]; rfl, HG.out⟩
 by_cases hm : m1 = m2
 case neg =>
  have hsb : (s1 == s2) = true := by simp [hs]
  have hmb : (((m1 : Nat) : Int) == ((m2 : Nat) : Int)) = false := by simp; omega
  have HN := LH hm
  clear hs hm
  go_enter Tryz.func222, Tryz.ntmps222
  go_wp2
  go_ret
  exact ⟨by rw [decide_eq_false (fun h => HN.out h.2.1)]; rfl, HG.out⟩
 have hsb : (s1 == s2) = true := by simp [hs]
 have hmb : (((m1 : Nat) : Int) == ((m2 : Nat) : Int)) = true := by simp; omega
 have HN := LH (And.intro hs hm)
 clear hs hm
 go_enter Tryz.func222, Tryz.ntmps222
 go_wp2_with fail
 refine HE.out.mono ?_
 rintro e w1 ⟨rfl, hg⟩
 have HG2 := LH (HG.out.grow hg)
 clear hg
 by_cases hl : l1 = l2
 ·have hd : decide (l1 = l2) = true := decide_eq_true hl
  rw [hd]
  have HL := LH hl
  clear hl hd
  go_wp2
  go_ret
  exact ⟨by rw [decide_eq_true ⟨HN.out.1, HN.out.2, HL.out⟩]; rfl, HG2.out⟩
 ·have hd : decide (l1 = l2) = false := decide_eq_false hl
  rw [hd]
  have HL := LH hl
  clear hl hd
  go_wp2
  go_ret
  exact ⟨by rw [decide_eq_false (fun h => HL.out h.2.2)]; rfl, HG2.out⟩
theorem mmatch_calls (session : Int) (h0 : 0 ≤ session) (h1 : session ≤ 18446744073709551615) (sum : Nat) (A1 : Option Addr) (c1 : Nat) (l : List Int) (hl9 : l.length ≤ 1000000) (a : List (List Int)) (ho : OkA a) (hfit : fitsB (szs a) = true) (hfl : a.flatten.length ≤ 1000000) (A : Option Addr) (c : Nat) (w : World) (hS : SliceR 1 (.slice A1 l.length c1) l.length (ints l) w) (hR : RowsR .u64 a (.slice A a.length c) w) :
    Calls Tryz.prog 171 #[.agg #[.int .u64 session, .slice A1 l.length c1, .int .u32 (sum : Nat)], .slice A a.length c] w fun e w' => e = .returned (.bool (decide (sum = sumP session a ∧ l = szs a))) ∧ Grow w w' := by
 have hg0 := (Keep.refl NoB w).alloc (.cells #[.int .u64 session, .slice A1 l.length c1, .int .u32 (sum : Nat)] 40)
 have hc0 := heap_alloc_new w (.cells #[.int .u64 session, .slice A1 l.length c1, .int .u32 (sum : Nat)] 40)
 have HG := LH hg0
 have HC := LH hc0
 have HS := LH (hS.grow hg0)
 have HM := LH (maniof_calls session h0 h1 a ho hfit hfl A c _ (hR.grow hg0))
 obtain ⟨m0, m1, m2, mf⟩ := cells3 hc0
 clear hg0 hc0 hS hR
 go_enter Tryz.func171, Tryz.ntmps171
 go_wp2_with fail
 refine HM.out.mono ?_
 rintro e w1 ⟨A2, c2, rfl, hg, F, hF, _⟩
 have hga := (Keep.refl NoB w1).alloc (.cells #[.int .u64 session, .slice A2 (szs a).length c2, .int .u32 (sumP session a : Nat)] 40)
 have hca := heap_alloc_new w1 (.cells #[.int .u64 session, .slice A2 (szs a).length c2, .int .u32 (sumP session a : Nat)] 40)
 obtain ⟨n0, n1, n2, nf⟩ := cells3 hca
 have hc1 := Grow.heap (hg.grow hga) HC.out
 clear m0 m1 m2 mf
 obtain ⟨m0, m1, m2, mf⟩ := cells3 hc1
 have hms := (msame_calls session session sum (sumP session a) A1 A2 c1 c2 l (szs a) hl9 _ (HS.out.grow (hg.grow hga)) (hF.grow hga).now)
 rw [show decide (session = session ∧ sum = sumP session a ∧ l = szs a) = decide (sum = sumP session a ∧ l = szs a) from by simp] at hms
 obtain ⟨b, hb⟩ : ∃ b, decide (sum = sumP session a ∧ l = szs a) = b := ⟨_, rfl⟩
 rw [hb] at hms
 have HB := LH hb
 have HE := LH hms
 clear hms hb
 replace HG := LH (HG.out.grow (hg.grow hga))
 clear hg hga hca hc1 hF
 go_wp2_with fail
 refine HE.out.mono ?_
 rintro e w2 ⟨rfl, hg⟩
 have HG2 := LH (HG.out.grow hg)
 clear hg
 go_wp2
 go_ret
 exact ⟨by rw [HB.out]; rfl, HG2.out⟩
theorem cells21 {w : World} {g T : Nat} {a0 a1 a2 a3 a4 a5 a6 a7 a8 a9 a10 a11 a12 a13 a14 a15 a16 a17 a18 a19 a20 : Value} (h : w.heap[g]? = some (.cells #[a0, a1, a2, a3, a4, a5, a6, a7, a8, a9, a10, a11, a12, a13, a14, a15, a16, a17, a18, a19, a20] T (0, 0))) : w.cell? ⟨g, 0, none⟩ = some a0 ∧ w.cell? ⟨g, 1, none⟩ = some a1 ∧ w.cell? ⟨g, 2, none⟩ = some a2 ∧ w.cell? ⟨g, 3, none⟩ = some a3 ∧ w.cell? ⟨g, 4, none⟩ = some a4 ∧ w.cell? ⟨g, 5, none⟩ = some a5 ∧ w.cell? ⟨g, 6, none⟩ = some a6 ∧ w.cell? ⟨g, 7, none⟩ = some a7 ∧ w.cell? ⟨g, 8, none⟩ = some a8 ∧ w.cell? ⟨g, 9, none⟩ = some a9 ∧ w.cell? ⟨g, 10, none⟩ = some a10 ∧ w.cell? ⟨g, 11, none⟩ = some a11 ∧ w.cell? ⟨g, 12, none⟩ = some a12 ∧ w.cell? ⟨g, 13, none⟩ = some a13 ∧ w.cell? ⟨g, 14, none⟩ = some a14 ∧ w.cell? ⟨g, 15, none⟩ = some a15 ∧ w.cell? ⟨g, 16, none⟩ = some a16 ∧ w.cell? ⟨g, 17, none⟩ = some a17 ∧ w.cell? ⟨g, 18, none⟩ = some a18 ∧ w.cell? ⟨g, 19, none⟩ = some a19 ∧ w.cell? ⟨g, 20, none⟩ = some a20 ∧ ∀ o, w.frozen? ⟨g, o, none⟩ = false :=
 ⟨World.news_of_block h 0 _ rfl, World.news_of_block h 1 _ rfl, World.news_of_block h 2 _ rfl, World.news_of_block h 3 _ rfl, World.news_of_block h 4 _ rfl, World.news_of_block h 5 _ rfl, World.news_of_block h 6 _ rfl, World.news_of_block h 7 _ rfl, World.news_of_block h 8 _ rfl, World.news_of_block h 9 _ rfl, World.news_of_block h 10 _ rfl, World.news_of_block h 11 _ rfl, World.news_of_block h 12 _ rfl, World.news_of_block h 13 _ rfl, World.news_of_block h 14 _ rfl, World.news_of_block h 15 _ rfl, World.news_of_block h 16 _ rfl, World.news_of_block h 17 _ rfl, World.news_of_block h 18 _ rfl, World.news_of_block h 19 _ rfl, World.news_of_block h 20 _ rfl, fun o => frozen0 o h⟩
structure Sl where
 A : Option Addr
 n : Nat
 c : Nat
def Sl.v (s : Sl) : Value := .slice s.A s.n s.c
structure RC where
 part : Option Addr
 win : Int
 back : Int
 retry : Int
 quota : Int
 st : Nat
 phase : Int
 err : Int
 session : Int
 sum : Nat
 of : Int
 h0 : Bool
 h1 : Bool
 h2 : Bool
 h3 : Bool
 z0 : Sl
 z1 : Sl
 z2 : Sl
 z3 : Sl
 resumed : Bool
 closed : Bool
def RC.cs (d : RC) : Array Value := #[.pointer d.part, .int .i64 d.win, .int .i64 d.back, .int .i64 d.retry, .int .i64 d.quota, .pointer (some ⟨d.st, 0, none⟩), .int .i64 d.phase, .int .u16 d.err, .int .u64 d.session, .int .u32 (d.sum : Nat), .int .i64 d.of, .bool d.h0, .bool d.h1, .bool d.h2, .bool d.h3, .slice d.z0.A d.z0.n d.z0.c, .slice d.z1.A d.z1.n d.z1.c, .slice d.z2.A d.z2.n d.z2.c, .slice d.z3.A d.z3.n d.z3.c, .bool d.resumed, .bool d.closed]
def RCell (g : Nat) (d : RC) (w : World) : Prop := w.heap[g]? = some (.cells d.cs 173 (0, 0))
theorem RCell.keep {g : Nat} {d : RC} {w w' : World} {S : Nat → Prop} (h : RCell g d w) (hk : Keep S w w') (hg : ¬ S g) : RCell g d w' := (hk.block g (gE h).1 hg).trans h
theorem RCell.grow {g : Nat} {d : RC} {w w' : World} (h : RCell g d w) (hk : Grow w w') : RCell g d w' := h.keep hk (fun h => h)
theorem RCell.lt {g : Nat} {d : RC} {w : World} (h : RCell g d w) : g < w.heap.size := (gE h).1
theorem RCell.put {g : Nat} {d d' : RC} {w : World} (h : RCell g d w) (i : Nat) (v : Value) (hd : d.cs.setIfInBounds i v = d'.cs) : RCell g d' (w.setCell ⟨g, i, none⟩ v) ∧ Keep (fun k => k = g) w (w.setCell ⟨g, i, none⟩ v) := by
 refine ⟨?_, (Keep.refl (fun k => k = g) w).setCell (p := ⟨g, i, none⟩) (.inl rfl) _⟩
 unfold RCell at *
 simp only [World.setCell, Array.getElem?_modify]
 simp [h, hd]
end Go.Proofs.YtfkcpaahdlkcdaaGreat
namespace Go.Proofs.YtfkcpaahdlkcdaaGreat
open Go.RowKit
def RC.fail (d : RC) (e : Int) : RC := ⟨none, d.win, d.back, d.retry, d.quota, d.st, 3, e, d.session, d.sum, 0, false, false, false, false, ⟨none, 0, 0⟩, ⟨none, 0, 0⟩, ⟨none, 0, 0⟩, ⟨none, 0, 0⟩, false, false⟩
theorem Keep.setRow {S : Nat → Prop} {a b : World} (h : Keep S a b) {r : Nat} (hr : S r ∨ a.heap.size ≤ r) (cs : Array Value) : Keep S a (b.setRow r cs) :=
 ⟨h.os, h.tape, h.output, by simpa [World.setRow] using h.size, fun i hi hS => by
  show (b.heap.modify r _)[i]? = _
  rw [Array.getElem?_modify, if_neg (by intro e; subst e; rcases hr with hr | hr; exact hS hr; omega)]
  exact h.block i hi hS⟩
section
variable {P : Program} {ops : Array Oper} {Q : Exit → Act → World → Prop} {ds : List Nat} {S : Nat → Prop} {R : Act → World → Prop} {acts reads rest : List Nat} {a : Act} {w : World} {i : Nat} {o : Oper}
theorem ord_row (hl : ops.toList[i]? = some o) (ha : acts.contains i = true) (hN : o.dst = none) (hg : o.guard = none) (ty : TypeId) (x y : Operand) (hop : o.op = Op.store ty x y) (g : Nat) (cells : Array Value) (hx : a.eval x = .pointer (some ⟨g, 0, none⟩)) (hy : a.eval y = .agg cells)
    (t : TypeId) (old : Array Value) (hgc : w.heap[g]? = some (.cells old t (0, 0))) (hi : (P.info? ty).map (·.size) = some cells.size) (hold : old.size = cells.size) (h1 : cells.all (·.oneCell') = true)
    (hk : i ∉ ds → Keep S w (w.setRow g cells)) (h : wpOrdC S P ops Q R acts reads ds rest a (w.setRow g cells)) : wpOrdC S P ops Q R acts reads ds (i :: rest) a w := by
 refine ord_act hl ha (fun K hK => ?_)
 rw [if_pos (by simp [Region.wanted, hg])]
 refine wp_store_row ty x y hop g cells hx hy t old hgc hi hold h1 ?_
 rw [hN]
 exact hK _ _ ⟨hk, h⟩
end
theorem info_recv : (Tryz.prog.info? 173).map (·.size) = some 21 := by kernel_rfl
theorem RC.cs_all (d : RC) : d.cs.all (·.oneCell') = true := by simp [RC.cs, Value.oneCell']
theorem RCell.row {g : Nat} {d : RC} {w : World} (h : RCell g d w) (d' : RC) : RCell g d' (w.setRow g d'.cs) ∧ Keep (fun k => k = g) w (w.setRow g d'.cs) :=
 ⟨setRow_heap w g d.cs d'.cs _ _ h, (Keep.refl (fun k => k = g) w).setRow (.inl rfl) _⟩
theorem rfail_calls {g : Nat} {d : RC} {w : World} (h : RCell g d w) (e : Int) :
    Calls Tryz.prog 172 #[.pointer (some ⟨g, 0, none⟩), .int .u16 e] w fun ee w' => (∃ v, ee = .returned v) ∧ RCell g (d.fail e) w' ∧ Keep (fun k => k = g) w w' := by
 obtain ⟨c0, c1, c2, c3, c4, c5, c6, c7, c8, c9, c10, c11, c12, c13, c14, c15, c16, c17, c18, c19, c20, cf⟩ := cells21 h
 have HE := LH h
 clear h
 go_enter Tryz.func172, Tryz.ntmps172
 go_wp2
 refine region_ord [0, 1, 2, 3, 4, 5, 6, 7, 8, 9, 10, 11, 12, 13, 14, 15, 16, 17, 18, 19, 20] [20] [4, 8, 13, 17] [20] rfl (by kernel_rfl) ?_
 iterate 4
  refine ord_pure rfl rfl rfl rfl rfl (fun _ _ _ _ h => h) ?_ ?_ ?_ ?_ ?_
  rotate_left 2
  ·intro w'; go_simp; with_reducible rfl
  ·simp only [Act.put, pB, pC, pD]; rfl
 refine ord_read rfl rfl rfl rfl rfl (fun _ _ _ _ h => h) ?_ ?_ ?_ ?_ ?_
 rotate_left 2
 ·intro w' hg; have q1 := hg.cell c1 (fun h => h); have q2 := hg.cell c2 (fun h => h); have q3 := hg.cell c3 (fun h => h); have q4 := hg.cell c4 (fun h => h); go_simp; with_reducible rfl
 ·simp only [Act.put, pB, pC, pD]; rfl
 iterate 3
  refine ord_pure rfl rfl rfl rfl rfl (fun _ _ _ _ h => h) ?_ ?_ ?_ ?_ ?_
  rotate_left 2
  ·intro w'; go_simp; with_reducible rfl
  ·simp only [Act.put, pB, pC, pD]; rfl
 refine ord_read rfl rfl rfl rfl rfl (fun _ _ _ _ h => h) ?_ ?_ ?_ ?_ ?_
 rotate_left 2
 ·intro w' hg; have q := hg.cell c5 (fun h => h); go_simp; with_reducible rfl
 ·simp only [Act.put, pB, pC, pD]; rfl
 iterate 4
  refine ord_pure rfl rfl rfl rfl rfl (fun _ _ _ _ h => h) ?_ ?_ ?_ ?_ ?_
  rotate_left 2
  ·intro w'; go_simp; with_reducible rfl
  ·simp only [Act.put, pB, pC, pD]; rfl
 refine ord_read rfl rfl rfl rfl rfl (fun _ _ _ _ h => h) ?_ ?_ ?_ ?_ ?_
 rotate_left 2
 ·intro w' hg; have q := hg.cell c8 (fun h => h); go_simp; with_reducible rfl
 ·simp only [Act.put, pB, pC, pD]; rfl
 iterate 3
  refine ord_pure rfl rfl rfl rfl rfl (fun _ _ _ _ h => h) ?_ ?_ ?_ ?_ ?_
  rotate_left 2
  ·intro w'; go_simp; with_reducible rfl
  ·simp only [Act.put, pB, pC, pD]; rfl
 refine ord_read rfl rfl rfl rfl rfl (fun _ _ _ _ h => h) ?_ ?_ ?_ ?_ ?_
 rotate_left 2
 ·intro w' hg; have q := hg.cell c9 (fun h => h); go_simp; with_reducible rfl
 ·simp only [Act.put, pB, pC, pD]; rfl
 iterate 2
  refine ord_pure rfl rfl rfl rfl rfl (fun _ _ _ _ h => h) ?_ ?_ ?_ ?_ ?_
  rotate_left 2
  ·intro w'; go_simp; with_reducible rfl
  ·simp only [Act.put, pB, pC, pD]; rfl
 refine ord_row rfl rfl rfl rfl _ _ _ rfl g (d.fail e).cs rfl rfl _ d.cs HE.out info_recv rfl (RC.cs_all _) (fun h => absurd (by simp) h) ?_
 refine ord_nil ?_
 have hr := RCell.row (w := w.drew) HE.out (d.fail e)
 have hk := (Keep.refl (fun k => k = g) w).drew.trans hr.2 (fun k hk => .inl hk)
 have HR := LH hr.1
 have HK := LH hk
 clear hr hk c0 c1 c2 c3 c4 c5 c6 c7 c8 c9 c10 c11 c12 c13 c14 c15 c16 c17 c18 c19 c20 cf
 generalize w.drew.setRow g (d.fail e).cs = w9 at HR HK ⊢
 go_wp2
 go_end0
 exact ⟨⟨_, rfl⟩, HR.out, HK.out⟩
theorem rgram_calls {g : Nat} {d : RC} {w : World} (h : RCell g d w) (kind index : Int) :
    Calls Tryz.prog 124 #[.pointer (some ⟨g, 0, none⟩), .int .i64 kind, .int .i64 index] w fun e w' => e = .returned (.agg #[.int .i64 kind, .int .u64 d.session, .int .i64 index, .int .i64 0, .int .u32 (d.sum : Nat), .slice none 0 0, .slice none 0 0]) ∧ Grow w w' := by
 have HG := LH ((Keep.refl NoB w).alloc (.cells #[.int .i64 0, .int .u64 0, .int .i64 0, .int .i64 0, .int .u32 0, .slice none 0 0, .slice none 0 0] 46))
 have H := LH (h.grow HG.out)
 have HC := LH (heap_alloc_new w (.cells #[.int .i64 0, .int .u64 0, .int .i64 0, .int .i64 0, .int .u32 0, .slice none 0 0, .slice none 0 0] 46))
 clear h
 go_enter Tryz.func124, Tryz.ntmps124
 go_wp2
 generalize w.alloc (.cells #[.int .i64 0, .int .u64 0, .int .i64 0, .int .i64 0, .int .u32 0, .slice none 0 0, .slice none 0 0] 46) = w1 at HG H HC ⊢
 obtain ⟨c0, c1, c2, c3, c4, c5, c6, c7, c8, c9, c10, c11, c12, c13, c14, c15, c16, c17, c18, c19, c20, cf⟩ := cells21 H.out
 obtain ⟨z0, z1, z2, z3, z4, z5, z6, zf⟩ := cells7 HC.out
 refine region_ord [0, 1, 2, 3, 4, 5, 6, 7, 8, 9, 10, 11] [11] [4, 8] [11] rfl (by kernel_rfl) ?_
 iterate 4
  refine ord_pure rfl rfl rfl rfl rfl (fun _ _ _ _ h => h) ?_ ?_ ?_ ?_ ?_
  rotate_left 2
  ·intro w'; go_simp; with_reducible rfl
  ·simp only [Act.put, pB, pC, pD]; rfl
 refine ord_read rfl rfl rfl rfl rfl (fun _ _ _ _ h => h) ?_ ?_ ?_ ?_ ?_
 rotate_left 2
 ·intro w' hg; have q := hg.cell c8 (fun h => h); go_simp; with_reducible rfl
 ·simp only [Act.put, pB, pC, pD]; rfl
 iterate 3
  refine ord_pure rfl rfl rfl rfl rfl (fun _ _ _ _ h => h) ?_ ?_ ?_ ?_ ?_
  rotate_left 2
  ·intro w'; go_simp; with_reducible rfl
  ·simp only [Act.put, pB, pC, pD]; rfl
 refine ord_read rfl rfl rfl rfl rfl (fun _ _ _ _ h => h) ?_ ?_ ?_ ?_ ?_
 rotate_left 2
 ·intro w' hg; have q := hg.cell c9 (fun h => h); go_simp; with_reducible rfl
 ·simp only [Act.put, pB, pC, pD]; rfl
 iterate 2
  refine ord_pure rfl rfl rfl rfl rfl (fun _ _ _ _ h => h) ?_ ?_ ?_ ?_ ?_
  rotate_left 2
  ·intro w'; go_simp; with_reducible rfl
  ·simp only [Act.put, pB, pC, pD]; rfl
 refine ord_put rfl rfl rfl rfl ?_ ?_ (fun h => absurd (by simp) h) ?_
 rotate_left
 ·go_simp; with_reducible rfl
 refine ord_nil ?_
 have HS := LH (stored7 (.int .i64 kind) (.int .u64 d.session) (.int .i64 index) (.int .i64 0) (.int .u32 (d.sum : Nat)) (.slice none 0 0) (.slice none 0 0) HG.out (Nat.le_refl _) HC.out)
 obtain ⟨W2, hW2⟩ : ∃ W2, (((((((w1.setCell ⟨w.heap.size, 0, none⟩ (.int .i64 kind)).setCell ⟨w.heap.size, 1, none⟩ (.int .u64 d.session)).setCell ⟨w.heap.size, 2, none⟩ (.int .i64 index)).setCell ⟨w.heap.size, 3, none⟩ (.int .i64 0)).setCell ⟨w.heap.size, 4, none⟩ (.int .u32 (d.sum : Nat))).setCell ⟨w.heap.size, 5, none⟩ (.slice none 0 0)).setCell ⟨w.heap.size, 6, none⟩ (.slice none 0 0)) = W2 := ⟨_, rfl⟩
 rw [hW2] at HS ⊢
 clear hW2 c0 c1 c2 c3 c4 c5 c6 c7 c8 c9 c10 c11 c12 c13 c14 c15 c16 c17 c18 c19 c20 cf z0 z1 z2 z3 z4 z5 z6 zf
 obtain ⟨z0, z1, z2, z3, z4, z5, z6, zf⟩ := cells7 HS.out.1
 go_wp2
 refine bodyPost_ret (v := .agg #[.int .i64 kind, .int .u64 d.session, .int .i64 index, .int .i64 0, .int .u32 (d.sum : Nat), .slice none 0 0, .slice none 0 0]) ?_ rfl ⟨rfl, HS.out.2.drew⟩
 rw [results_cell1 rfl]; go_simp
theorem rours_calls {g : Nat} {d : RC} {w : World} (h : RCell g d w) (k s i o : Int) (m : Nat) (A1 A2 : Option Addr) (n1 c1' n2 c2' : Nat) :
    Calls Tryz.prog 177 #[.pointer (some ⟨g, 0, none⟩), .agg #[.int .i64 k, .int .u64 s, .int .i64 i, .int .i64 o, .int .u32 (m : Nat), .slice A1 n1 c1', .slice A2 n2 c2']] w fun e w' => e = .returned (.bool (decide (s = d.session ∧ m = d.sum))) ∧ Grow w w' := by
 have hg0 := (Keep.refl NoB w).alloc (.cells #[.int .i64 k, .int .u64 s, .int .i64 i, .int .i64 o, .int .u32 (m : Nat), .slice A1 n1 c1', .slice A2 n2 c2'] 46)
 have hz := heap_alloc_new w (.cells #[.int .i64 k, .int .u64 s, .int .i64 i, .int .i64 o, .int .u32 (m : Nat), .slice A1 n1 c1', .slice A2 n2 c2'] 46)
 obtain ⟨c0, c1, c2, c3, c4, c5, c6, c7, c8, c9, c10, c11, c12, c13, c14, c15, c16, c17, c18, c19, c20, cf⟩ := cells21 (h.grow hg0)
 obtain ⟨z0, z1, z2, z3, z4, z5, z6, zf⟩ := cells7 hz
 have HG := LH hg0
 clear h hg0 hz
 go_enter Tryz.func177, Tryz.ntmps177
 go_wp2
 by_cases hs : s = d.session
 case neg =>
  have hsb : (s == d.session) = false := by simp [hs]
  have HN : Hid (decide (s = d.session ∧ m = d.sum) = false) := LH (decide_eq_false (fun h => hs h.1))
  clear hs
  refine region_ord [0, 1, 2, 3, 4, 5, 6, 7, 8, 9, 10, 11, 12, 13, 14, 15, 16] [16] [1, 5, 9, 13] [] rfl (by kernel_rfl) ?_
  refine ord_pure rfl rfl rfl rfl rfl (fun _ _ _ _ h => h) ?_ ?_ ?_ ?_ ?_
  rotate_left 2
  ·intro w'; go_simp; with_reducible rfl
  ·simp only [Act.put, pB, pC, pD]; rfl
  refine ord_read rfl rfl rfl rfl rfl (fun _ _ _ _ h => h) ?_ ?_ ?_ ?_ ?_
  rotate_left 2
  ·intro w' hg; have q := hg.cell z1 (fun h => h); go_simp; with_reducible rfl
  ·simp only [Act.put, pB, pC, pD]; rfl
  iterate 3
   refine ord_pure rfl rfl rfl rfl rfl (fun _ _ _ _ h => h) ?_ ?_ ?_ ?_ ?_
   rotate_left 2
   ·intro w'; go_simp; with_reducible rfl
   ·simp only [Act.put, pB, pC, pD]; rfl
  refine ord_read rfl rfl rfl rfl rfl (fun _ _ _ _ h => h) ?_ ?_ ?_ ?_ ?_
  rotate_left 2
  ·intro w' hg; have q := hg.cell c8 (fun h => h); go_simp; with_reducible rfl
  ·simp only [Act.put, pB, pC, pD]; rfl
  iterate 2
   refine ord_pure rfl rfl rfl rfl rfl (fun _ _ _ _ h => h) ?_ ?_ ?_ ?_ ?_
   rotate_left 2
   ·intro w'; go_simp; with_reducible rfl
   ·simp only [Act.put, pB, pC, pD]; rfl
  iterate 7
   refine ord_skip rfl rfl rfl rfl (fun _ _ _ _ h => h) ?_ ?_ ?_
   rotate_left 1
   ·simp only [Act.put, pB, pC, pD]; rfl
  refine ord_pure rfl rfl rfl rfl rfl (fun _ _ _ _ h => h) ?_ ?_ ?_ ?_ ?_
  rotate_left 2
  ·intro w'; go_simp; with_reducible rfl
  ·simp only [Act.put, pB, pC, pD]; rfl
  refine ord_set rfl rfl rfl rfl ?_ ?_ ?_ ?_ ?_
  rotate_left 2
  ·go_simp; with_reducible rfl
  ·simp only [Act.put, pB, pC, pD]; rfl
  refine ord_nil ?_
  go_wp2
  go_ret
  exact ⟨by rw [HN.out]; rfl, HG.out.drew⟩
 have hsb : (s == d.session) = true := by simp [hs]
 obtain ⟨b, hb⟩ : ∃ b, decide (s = d.session ∧ m = d.sum) = b := ⟨_, rfl⟩
 have hmb : (((m : Nat) : Int) == ((d.sum : Nat) : Int)) = b := by
  rw [← hb]
  by_cases hm : m = d.sum
  ·simp [hs, hm]
  ·rw [decide_eq_false (fun h => hm h.2), beq_eq_false_iff_ne]
   omega
 have HB := LH hb
 clear hs hb
 refine region_ord [0, 1, 2, 3, 4, 5, 6, 7, 8, 9, 10, 11, 12, 13, 14, 15, 16] [16] [1, 5, 9, 13] [] rfl (by kernel_rfl) ?_
 refine ord_pure rfl rfl rfl rfl rfl (fun _ _ _ _ h => h) ?_ ?_ ?_ ?_ ?_
 rotate_left 2
 ·intro w'; go_simp; with_reducible rfl
 ·simp only [Act.put, pB, pC, pD]; rfl
 refine ord_read rfl rfl rfl rfl rfl (fun _ _ _ _ h => h) ?_ ?_ ?_ ?_ ?_
 rotate_left 2
 ·intro w' hg; have q := hg.cell z1 (fun h => h); go_simp; with_reducible rfl
 ·simp only [Act.put, pB, pC, pD]; rfl
 iterate 3
  refine ord_pure rfl rfl rfl rfl rfl (fun _ _ _ _ h => h) ?_ ?_ ?_ ?_ ?_
  rotate_left 2
  ·intro w'; go_simp; with_reducible rfl
  ·simp only [Act.put, pB, pC, pD]; rfl
 refine ord_read rfl rfl rfl rfl rfl (fun _ _ _ _ h => h) ?_ ?_ ?_ ?_ ?_
 rotate_left 2
 ·intro w' hg; have q := hg.cell c8 (fun h => h); go_simp; with_reducible rfl
 ·simp only [Act.put, pB, pC, pD]; rfl
 iterate 2
  refine ord_pure rfl rfl rfl rfl rfl (fun _ _ _ _ h => h) ?_ ?_ ?_ ?_ ?_
  rotate_left 2
  ·intro w'; go_simp; with_reducible rfl
  ·simp only [Act.put, pB, pC, pD]; rfl
 refine ord_pureG rfl rfl rfl rfl rfl (fun _ _ _ _ h => h) ?_ ?_ ?_ ?_ ?_
 rotate_left 2
 ·intro w'; go_simp; with_reducible rfl
 ·simp only [Act.put, pB, pC, pD]; rfl
 refine ord_readG rfl rfl rfl rfl rfl (fun _ _ _ _ h => h) ?_ ?_ ?_ ?_ ?_
 rotate_left 2
 ·intro w' hg; have q := hg.cell z4 (fun h => h); go_simp; with_reducible rfl
 ·simp only [Act.put, pB, pC, pD]; rfl
 iterate 3
  refine ord_pureG rfl rfl rfl rfl rfl (fun _ _ _ _ h => h) ?_ ?_ ?_ ?_ ?_
  rotate_left 2
  ·intro w'; go_simp; with_reducible rfl
  ·simp only [Act.put, pB, pC, pD]; rfl
 refine ord_readG rfl rfl rfl rfl rfl (fun _ _ _ _ h => h) ?_ ?_ ?_ ?_ ?_
 rotate_left 2
 ·intro w' hg; have q := hg.cell c9 (fun h => h); go_simp; with_reducible rfl
 ·simp only [Act.put, pB, pC, pD]; rfl
 refine ord_pureG rfl rfl rfl rfl rfl (fun _ _ _ _ h => h) ?_ ?_ ?_ ?_ ?_
 rotate_left 2
 ·intro w'; go_simp; with_reducible rfl
 ·simp only [Act.put, pB, pC, pD]; rfl
 refine ord_pure rfl rfl rfl rfl rfl (fun _ _ _ _ h => h) ?_ ?_ ?_ ?_ ?_
 rotate_left 2
 ·intro w'; go_simp; with_reducible rfl
 ·simp only [Act.put, pB, pC, pD]; rfl
 refine ord_set rfl rfl rfl rfl ?_ ?_ ?_ ?_ ?_
 rotate_left 2
 ·go_simp; with_reducible rfl
 ·simp only [Act.put, pB, pC, pD]; rfl
 refine ord_nil ?_
 go_wp2
 go_ret
 exact ⟨by rw [HB.out]; rfl, HG.out.drew⟩
end Go.Proofs.YtfkcpaahdlkcdaaGreat
namespace Go.Proofs.YtfkcpaahdlkcdaaGreat
open Go.RowKit
theorem arenaW_szs {ws sz : List Int} (hnn : ∀ x ∈ sz, 0 ≤ x) (hl : (ws.length : Int) = sz.sum) : szs (arenaW ws sz) = sz := by
 apply List.ext_getElem (by rw [szs_length, arenaW_length])
 intro k h1 h2
 have h3 := rowAt_length hnn hl k h2
 have h4 := hnn _ (List.getElem_mem h2)
 simp only [szs, arenaW, List.getElem_map, List.getElem_range]
 omega
theorem arenaW_part {ws sz : List Int} (hnn : ∀ x ∈ sz, 0 ≤ x) : ∀ k, k ≤ sz.length → ((arenaW ws sz).take k).flatten = ws.take (offN sz k)
 | 0, _ => by simp [offN]
 | k + 1, h => by
  rw [arenaW_take ws sz k (by omega), List.flatten_append, arenaW_part hnn k (by omega), offN_succ hnn k (by omega), List.take_add]
  congr 1
  have e : sz.getD k 0 = sz[k]'(by omega) := by simp [List.getD_eq_getElem?_getD, show k < sz.length by omega]
  rw [rowAt, e]
  simp
theorem arenaW_flatten {ws sz : List Int} (hnn : ∀ x ∈ sz, 0 ≤ x) (hl : (ws.length : Int) = sz.sum) : (arenaW ws sz).flatten = ws := by
 have h := arenaW_part (ws := ws) hnn sz.length (Nat.le_refl _)
 rw [List.take_of_length_le (by rw [arenaW_length]; omega)] at h
 rw [h]
 refine List.take_of_length_le ?_
 unfold offN
 rw [List.take_length]
 omega
theorem arenaW_ok {ws sz : List Int} (hf : fitsB sz = true) (hl : (ws.length : Int) = sz.sum) (hw : ∀ x ∈ ws, 0 ≤ x ∧ x ≤ 18446744073709551615) : OkA (arenaW ws sz) := by
 obtain ⟨h1, h2, h3, h4⟩ := fits_parts hf
 refine ⟨by rw [arenaW_length]; omega, fun s hs => ?_, fun s hs x hx => ?_⟩
 ·obtain ⟨k, hk, rfl⟩ := List.mem_map.1 hs
  unfold rowAt
  rw [List.length_take, List.length_drop]
  omega
 ·obtain ⟨k, hk, rfl⟩ := List.mem_map.1 hs
  exact hw x (List.mem_of_mem_drop (List.mem_of_mem_take hx))
theorem OkP.arena {d : Par} (h : OkP d) : OkA (arenaW d.words d.sz) ∧ szs (arenaW d.words d.sz) = d.sz ∧ (arenaW d.words d.sz).flatten = d.words :=
 ⟨arenaW_ok h.fit h.wlen h.win, arenaW_szs (fits_parts h.fit).2.2.1 h.wlen, arenaW_flatten (fits_parts h.fit).2.2.1 h.wlen⟩
section
variable {P : Program} {ops : Array Oper} {Q : Exit → Act → World → Prop} {ds : List Nat} {S : Nat → Prop} {R : Act → World → Prop} {acts reads rest : List Nat} {a : Act} {w : World} {i : Nat} {o : Oper}
theorem ord_off (hl : ops.toList[i]? = some o) (ha : acts.contains i = true) (hg : Region.wanted o (yielded ops a.tmps) = false) (a' : Act) (ha' : a.put o.dst undef = a') (h : wpOrdC S P ops Q R acts reads ds rest a' w) : wpOrdC S P ops Q R acts reads ds (i :: rest) a w := by
 refine ord_act hl ha (fun K hK => ?_)
 rw [if_neg (by rw [hg]; simp), ha']
 exact hK _ _ ⟨fun _ => Keep.refl _ _, h⟩
end
theorem rcheck_no {g b : Nat} {rc : RC} {p : PP} {d : Par} {G : Nat → Prop} {w : World} (h : RCell g rc w) (hp : rc.part = some ⟨b, 0, none⟩) (hP : PAt b p d G w) (hno : popB d.known < chunksN d.sz) :
    Calls Tryz.prog 107 #[.pointer (some ⟨g, 0, none⟩)] w fun e w' => (∃ v, e = .returned v) ∧ Grow w w' := by
 obtain ⟨c0, c1, c2, c3, c4, c5, c6, c7, c8, c9, c10, c11, c12, c13, c14, c15, c16, c17, c18, c19, c20, cf⟩ := cells21 h
 rw [hp] at c0
 have HW := LH (pwhole_no hP hno)
 clear h hP hno
 go_enter Tryz.func107, Tryz.ntmps107
 go_wp2_with fail
 refine HW.out.mono ?_
 rintro e w1 ⟨rfl, hg⟩
 go_wp2
 refine bodyPost_ret (results_none rfl _ _ _) rfl ?_
 exact ⟨⟨_, rfl⟩, hg⟩
def RC.ended (rc : RC) (d : Par) : RC :=
 if d.sum = sumP d.session (arenaW d.words d.sz) then (if checkP (arenaW d.words d.sz) = 0 then { rc with phase := 2 } else rc.fail (checkP (arenaW d.words d.sz))) else rc.fail 12
theorem rcheck_all {g b : Nat} {rc : RC} {p : PP} {d : Par} {G : Nat → Prop} {w : World} (h : RCell g rc w) (hp : rc.part = some ⟨b, 0, none⟩) (hP : PAt b p d G w) (hall : chunksN d.sz ≤ popB d.known) :
    Calls Tryz.prog 107 #[.pointer (some ⟨g, 0, none⟩)] w fun e w' => (∃ v, e = .returned v) ∧ RCell g (rc.ended d) w' ∧ Keep (fun k => k = g) w w' := by
 obtain ⟨c0, c1, c2, c3, c4, c5, c6, c7, c8, c9, c10, c11, c12, c13, c14, c15, c16, c17, c18, c19, c20, cf⟩ := cells21 h
 rw [hp] at c0
 have HW := LH (pwhole_calls hP hall)
 have hok := hP.ok.arena
 have HOK := LH hP.ok
 have HAR := LH hok
 have H := LH h
 have HPP := LH hp
 have HP := LH hP
 have hlen : d.words.length ≤ 4096 := by have := fits_parts hP.ok.fit; have := hP.ok.wlen; omega
 have hsz : d.sz.length ≤ 16 := (fits_parts hP.ok.fit).2.1
 obtain ⟨a, ha⟩ : ∃ a, arenaW d.words d.sz = a := ⟨_, rfl⟩
 have HE : Hid (rc.ended d = if d.sum = sumP d.session a then (if checkP a = 0 then { rc with phase := 2 } else rc.fail (checkP a)) else rc.fail 12) := LH (by unfold RC.ended; rw [ha])
 rw [ha] at HW HAR
 clear h hP hall hok ha
 go_enter Tryz.func107, Tryz.ntmps107
 go_wp2_with fail
 refine HW.out.mono ?_
 rintro e w1 ⟨Aa, ca, F, rfl, hg, hF, _⟩
 have HF := LH hF
 have HG := LH hg
 replace H := LH (H.out.grow hg)
 replace HP := LH (HP.out.grow hg)
 clear hg hF c0 c1 c2 c3 c4 c5 c6 c7 c8 c9 c10 c11 c12 c13 c14 c15 c16 c17 c18 c19 c20 cf
 obtain ⟨c0, c1, c2, c3, c4, c5, c6, c7, c8, c9, c10, c11, c12, c13, c14, c15, c16, c17, c18, c19, c20, cf⟩ := cells21 H.out
 rw [HPP.out] at c0
 go_wp2_with fail
 refine (pmani_calls HP.out).mono ?_
 rintro e w2 ⟨Am, cm, rfl, hg, hom⟩
 have hmm := mmatch_calls d.session HOK.out.s0 HOK.out.s1 d.sum Am cm d.sz (by omega) a HAR.out.1 (by rw [HAR.out.2.1]; exact HOK.out.fit) (by rw [HAR.out.2.2]; omega) Aa ca w2 (SliceR.of_own hom) (HF.out.grow hg).now
 have hdd : decide (d.sum = sumP d.session a ∧ d.sz = szs a) = decide (d.sum = sumP d.session a) := by
  have := HAR.out.2.1
  simp [this]
 rw [hdd] at hmm
 have HM := LH hmm
 replace HF := LH (HF.out.grow hg)
 replace HG := LH (HG.out.grow hg)
 replace H := LH (H.out.grow hg)
 clear hg hom hmm hdd c0 c1 c2 c3 c4 c5 c6 c7 c8 c9 c10 c11 c12 c13 c14 c15 c16 c17 c18 c19 c20 cf
 by_cases hs : d.sum = sumP d.session a
 case neg =>
  rw [decide_eq_false hs] at HM
  replace HE := LH (HE.out.trans (if_neg hs))
  clear hs
  go_wp2_with fail
  refine HM.out.mono ?_
  rintro e w3 ⟨rfl, hg⟩
  replace HG := LH (HG.out.grow hg)
  replace H := LH (H.out.grow hg)
  clear hg
  go_wp2_with fail
  refine (rfail_calls H.out 12).mono ?_
  rintro e w4 ⟨⟨v, rfl⟩, hr, hk⟩
  have HN := LH (And.intro hr ((HG.out.mono (T := fun k => k = g) (fun _ h => h.elim)).trans hk (fun k hk => .inl hk)))
  clear hr hk
  go_wp2
  refine bodyPost_ret (results_none rfl _ _ _) rfl ?_
  rw [HE.out]
  exact ⟨⟨_, rfl⟩, HN.out.1, HN.out.2⟩
 rw [decide_eq_true hs] at HM
 replace HE := LH (HE.out.trans (if_pos hs))
 clear hs
 go_wp2_with fail
 refine HM.out.mono ?_
 rintro e w3 ⟨rfl, hg⟩
 replace HF := LH (HF.out.grow hg)
 replace HG := LH (HG.out.grow hg)
 replace H := LH (H.out.grow hg)
 clear hg
 go_wp2_with fail
 refine (check_calls a _ w3 HF.out.now HAR.out.1).mono ?_
 rintro e w4 ⟨rfl, hg⟩
 replace HG := LH (HG.out.grow hg)
 replace H := LH (H.out.grow hg)
 clear hg
 by_cases hc : checkP a = 0
 case neg =>
  have hcb : (checkP a != 0) = true := by simp [hc]
  replace HE := LH (HE.out.trans (if_neg hc))
  clear hc
  go_wp2_with fail
  refine (rfail_calls H.out (checkP a)).mono ?_
  rintro e w5 ⟨⟨v, rfl⟩, hr, hk⟩
  have HN := LH (And.intro hr ((HG.out.mono (T := fun k => k = g) (fun _ h => h.elim)).trans hk (fun k hk => .inl hk)))
  clear hr hk
  go_wp2
  refine bodyPost_ret (results_none rfl _ _ _) rfl ?_
  rw [HE.out]
  exact ⟨⟨_, rfl⟩, HN.out.1, HN.out.2⟩
 have hcb : (checkP a != 0) = false := by simp [hc]
 replace HE := LH (HE.out.trans (if_pos hc))
 clear hc
 obtain ⟨c0, c1, c2, c3, c4, c5, c6, c7, c8, c9, c10, c11, c12, c13, c14, c15, c16, c17, c18, c19, c20, cf⟩ := cells21 H.out
 have hpt := H.out.put (d' := { rc with phase := 2 }) 6 (.int .i64 2) rfl
 have HN := LH (And.intro hpt.1 ((HG.out.mono (T := fun k => k = g) (fun _ h => h.elim)).trans hpt.2 (fun k hk => .inl hk)))
 clear hpt
 go_wp2
 go_end0
 rw [HE.out]
 exact ⟨⟨_, rfl⟩, HN.out.1, HN.out.2⟩
end Go.Proofs.YtfkcpaahdlkcdaaGreat
namespace Go.Proofs.YtfkcpaahdlkcdaaGreat
open Go.RowKit
theorem u_chunks : Tryz.prog.underlying 178 = some (.map 3 23) := by kernel_rfl
theorem u_steps : Tryz.prog.underlying 181 = some (.slice 194) := by kernel_rfl
theorem info_step : (Tryz.prog.info? 194).map (fun i => (i.zero, i.size, i.bytes)) = some (some .nilFunc, 1, 8) := by kernel_rfl
def slR : Value → Option (DataW Unit × List MemPlace)
 | .slice (some ⟨b, 0, none⟩) n c => some (.agg [.lit (.int .u64 b), .lit (.int .u64 n), .lit (.int .u64 c)], [])
 | .slice none 0 0 => some (.nil, [])
 | _ => none
structure Ck where
 b : Nat
 c : Nat
 bs : List Int
def Ck.d (x : Ck) : DataW Unit := .agg [.lit (.int .u64 x.b), .lit (.int .u64 x.bs.length), .lit (.int .u64 x.c)]
def atF (f : Nat → Option Ck) (k : Int) (z : DataW Unit) : DataW Unit := if 0 ≤ k then (match f k.toNat with | some x => x.d | none => z) else z
def KMap (m n : Nat) (f : Nat → Option Ck) (w : World) : Prop := ∃ D : DataW Unit, w.ownsMap Tryz.prog 3 slR m n D ∧ ∀ k, okI k → ∀ z, D.atKey (.int .i64 k) z = atF f k z
theorem KMap.keep {S : Nat → Prop} {w w' : World} {m n : Nat} {f : Nat → Option Ck} (h : KMap m n f w) (hk : Keep S w w') (hS : ¬ S m) : KMap m n f w' := by
 obtain ⟨D, ⟨es, clock, hb, r⟩, h2⟩ := h
 exact ⟨D, ⟨es, clock, (hk.block m (gE hb).1 hS).trans hb, r⟩, h2⟩
theorem KMap.lt {w : World} {m n : Nat} {f : Nat → Option Ck} (h : KMap m n f w) : m < w.heap.size := by
 obtain ⟨D, h1, _⟩ := h
 exact h1.lt
theorem KMap.made (w : World) : KMap w.heap.size 0 (fun _ => none) (w.alloc (.map #[] 0)) :=
 ⟨.map [], World.ownsMap_made w _ _ _, fun k _ z => by unfold atF; split <;> rfl⟩
structure KS where
 l0 : Nat
 lt : Sl
 m : Nat
 nt : Sl
 lo : Sl
 n : Nat
 f : Nat → Option Ck
def KS.cs (k : KS) : Array Value := #[.map (some k.l0), .slice k.lt.A k.lt.n k.lt.c, .map (some k.m), .slice k.nt.A k.nt.n k.nt.c, .slice k.lo.A k.lo.n k.lo.c]
def KF (s : Nat) (k : KS) : Nat → Prop := fun j => j = s ∨ j = k.m ∨ (Value.slice k.lo.A k.lo.n k.lo.c).ownBlock = some j
structure KAt (s : Nat) (k : KS) (G : Nat → Prop) (w : World) : Prop where
 cell : w.heap[s]? = some (.cells k.cs 183 (0, 0))
 map : KMap k.m k.n k.f w
 row : ∃ fs, w.ownsRow 0 194 1 (.slice k.lo.A k.lo.n k.lo.c) k.lo.n fs
 ro : Foot (fun w => ∀ i x, k.f i = some x → SliceR 1 (.slice (some ⟨x.b, 0, none⟩) x.bs.length x.c) x.bs.length (u8s x.bs) w) w G
 sm : s ≠ k.m
 so : (Value.slice k.lo.A k.lo.n k.lo.c).ownBlock ≠ some s
 mo : (Value.slice k.lo.A k.lo.n k.lo.c).ownBlock ≠ some k.m
 g : ∀ j, G j → ¬ KF s k j
theorem KAt.keep {s : Nat} {k : KS} {G S : Nat → Prop} {w w' : World} (h : KAt s k G w) (hk : Keep S w w') (hF : ∀ j, KF s k j → ¬ S j) (hG : ∀ j, G j → ¬ S j) : KAt s k G w' := by
 obtain ⟨fs, hr⟩ := h.row
 exact ⟨(hk.block s (gE h.cell).1 (hF s (.inl rfl))).trans h.cell, h.map.keep hk (hF _ (.inr (.inl rfl))), ⟨fs, own_keep hr hk (fun j hj => hF j (.inr (.inr hj)))⟩, h.ro.keep hk hG, h.sm, h.so, h.mo, h.g⟩
theorem KAt.grow {s : Nat} {k : KS} {G : Nat → Prop} {w w' : World} (h : KAt s k G w) (hk : Grow w w') : KAt s k G w' := h.keep hk (fun _ _ h => h) (fun _ _ h => h)
theorem KAt.small {s : Nat} {k : KS} {G : Nat → Prop} {w : World} (h : KAt s k G w) : ∀ j, KF s k j → j < w.heap.size := fun j hj => by
 obtain ⟨fs, hr⟩ := h.row
 rcases hj with e | e | e
 ·rw [e]; exact (gE h.cell).1
 ·rw [e]; exact h.map.lt
 ·exact (hr.lt j e).2
theorem KAt.lt {s : Nat} {k : KS} {G : Nat → Prop} {w : World} (h : KAt s k G w) : s < w.heap.size := (gE h.cell).1
theorem knew_calls (w : World) : Calls Tryz.prog 36 #[] w fun e w' => ∃ s k, e = .returned (.pointer (some ⟨s, 0, none⟩)) ∧ Grow w w' ∧ KAt s k NoB w' ∧ (∀ j, KF s k j → w.heap.size ≤ j) ∧ k.f = (fun _ => none) ∧ k.nt = ⟨none, 0, 0⟩ ∧ k.lo = ⟨none, 0, 0⟩ ∧ k.n = 0 := by
 have hm := @run_makeMap Tryz.prog
 go_enter Tryz.func36, Tryz.ntmps36
 go_wp2
 go_ret
 have hcell := heap_alloc_new ((w.alloc (.map #[] 0)).alloc (.map #[] 0)) (.cells #[.map (some w.heap.size), .slice none 0 0, .map (some (w.alloc (.map #[] 0)).heap.size), .slice none 0 0, .slice none 0 0] 183)
 have hsz : ((w.alloc (.map #[] 0)).alloc (.map #[] 0)).heap.size = w.heap.size + 2 := by simp
 have hsz1 : (w.alloc (.map #[] 0)).heap.size = w.heap.size + 1 := by simp
 rw [hsz, hsz1] at hcell
 refine ⟨w.heap.size + 2, ⟨w.heap.size, ⟨none, 0, 0⟩, w.heap.size + 1, ⟨none, 0, 0⟩, ⟨none, 0, 0⟩, 0, fun _ => none⟩, by rfl, (((Keep.refl NoB w).alloc _).alloc _).alloc _, ⟨hcell, ?_, ⟨[], World.ownsRow_nil _ _ _ _⟩, ⟨fun k hk => hk.elim, fun W' _ i x h => by cases h⟩, by simp, by simp [Value.ownBlock], by simp [Value.ownBlock], fun j hj => hj.elim⟩, ?_, rfl, rfl, rfl, rfl⟩
 ·have h1 := KMap.made (w.alloc (.map #[] 0))
  rw [hsz1] at h1
  exact h1.keep ((Keep.refl NoB _).alloc _) (fun h => h)
 ·rintro j (h | h | h)
  ·rw [h]; omega
  ·rw [h]; simp
  ·simp [Value.ownBlock] at h
def KS.clear (k : KS) (m : Nat) : KS := { k with m := m, n := 0, f := fun _ => none, nt := ⟨none, 0, 0⟩ }
theorem KAt.cells {s : Nat} {k : KS} {G : Nat → Prop} {w : World} (h : KAt s k G w) : w.cell? ⟨s, 0, none⟩ = some (.map (some k.l0)) ∧ w.cell? ⟨s, 1, none⟩ = some (.slice k.lt.A k.lt.n k.lt.c) ∧ w.cell? ⟨s, 2, none⟩ = some (.map (some k.m)) ∧ w.cell? ⟨s, 3, none⟩ = some (.slice k.nt.A k.nt.n k.nt.c) ∧ w.cell? ⟨s, 4, none⟩ = some (.slice k.lo.A k.lo.n k.lo.c) ∧ ∀ o, w.frozen? ⟨s, o, none⟩ = false :=
 ⟨World.news_of_block h.cell 0 _ rfl, World.news_of_block h.cell 1 _ rfl, World.news_of_block h.cell 2 _ rfl, World.news_of_block h.cell 3 _ rfl, World.news_of_block h.cell 4 _ rfl, fun o => frozen0 o h.cell⟩
theorem set_cells {w : World} {g T : Nat} {cs : Array Value} (h : w.heap[g]? = some (.cells cs T (0, 0))) (i : Nat) (v : Value) : (w.setCell ⟨g, i, none⟩ v).heap[g]? = some (.cells (cs.setIfInBounds i v) T (0, 0)) := by
 simp only [World.setCell, Array.getElem?_modify]
 simp [h]
theorem KAt.lob {s : Nat} {k : KS} {G : Nat → Prop} {w : World} (h : KAt s k G w) : ∀ j, (Value.slice k.lo.A k.lo.n k.lo.c).ownBlock = some j → j < w.heap.size := fun j hj => h.small j (.inr (.inr hj))
theorem kclear1_calls {s : Nat} {k : KS} {G : Nat → Prop} {w : World} (h : KAt s k G w) : Calls Tryz.prog 219 #[.pointer (some ⟨s, 2, none⟩)] w fun e w' => (∃ v, e = .returned v) ∧ KAt s (k.clear w.heap.size) NoB w' ∧ Keep (fun j => j = s) w w' := by
 have hm := @run_makeMap Tryz.prog
 have H := LH h
 obtain ⟨c0, c1, c2, c3, c4, cf⟩ := (h.grow ((Keep.refl NoB w).alloc (.map #[] 0))).cells
 clear h
 go_enter Tryz.func219, Tryz.ntmps219
 go_wp2
 go_end0
 have h := H.out
 have ha := h.grow ((Keep.refl NoB w).alloc (.map #[] 0))
 have e1 := set_cells ha.cell 2 (.map (some w.heap.size))
 have e2 := set_cells e1 3 (.slice none 0 0)
 have hk1 : Keep (fun j => j = s) w (((w.alloc (.map #[] 0)).setCell ⟨s, 2, none⟩ (.map (some w.heap.size))).setCell ⟨s, 3, none⟩ (.slice none 0 0)) := (((Keep.refl (fun j => j = s) w).alloc _).setCell (p := ⟨s, 2, none⟩) (.inl rfl) _).setCell (p := ⟨s, 3, none⟩) (.inl rfl) _
 have hk2 : Keep (fun j => j = s) (w.alloc (.map #[] 0)) (((w.alloc (.map #[] 0)).setCell ⟨s, 2, none⟩ (.map (some w.heap.size))).setCell ⟨s, 3, none⟩ (.slice none 0 0)) := ((Keep.refl (fun j => j = s) _).setCell (p := ⟨s, 2, none⟩) (.inl rfl) _).setCell (p := ⟨s, 3, none⟩) (.inl rfl) _
 obtain ⟨fs, hr⟩ := h.row
 have hlt := h.lt
 refine ⟨⟨_, rfl⟩, ⟨e2, (KMap.made w).keep hk2 (by omega), ⟨fs, own_keep hr hk1 (fun j hj e => h.so (by subst e; exact hj))⟩, ⟨fun k hk => hk.elim, fun W' _ i x h => by cases h⟩, by show s ≠ w.heap.size; omega, h.so, fun e => ?_, fun j hj => hj.elim⟩, hk1⟩
 have := h.lob _ e
 simp [KS.clear] at this
def KS.step (k : KS) (A : Option Addr) (c : Nat) : KS := { k with lo := ⟨A, k.lo.n + 1, c⟩ }
theorem KAt.stepped {s : Nat} {k : KS} {G : Nat → Prop} {w w' : World} {A : Option Addr} {c : Nat} {fs : List Value} (h : KAt s k G w) (hap : Apped 0 194 1 (.slice k.lo.A k.lo.n k.lo.c) (.slice A (k.lo.n + 1) c) (k.lo.n + 1) fs w w' (Value.slice k.lo.A k.lo.n k.lo.c = .slice none 0 0 ∧ 1 = 0)) : KAt s (k.step A c) G (w'.setCell ⟨s, 4, none⟩ (.slice A (k.lo.n + 1) c)) ∧ Keep (fun j => j = s ∨ (Value.slice k.lo.A k.lo.n k.lo.c).ownBlock = some j) w (w'.setCell ⟨s, 4, none⟩ (.slice A (k.lo.n + 1) c)) := by
 have hk0 := hap.grew
 have hkp : Keep (fun j => (Value.slice k.lo.A k.lo.n k.lo.c).ownBlock = some j) w w' := (Keep.refl _ w).grown hk0 (fun j hj => .inl hj)
 have hk1 : Keep (fun j => j = s ∨ (Value.slice k.lo.A k.lo.n k.lo.c).ownBlock = some j) w (w'.setCell ⟨s, 4, none⟩ (.slice A (k.lo.n + 1) c)) := (hkp.mono (fun _ h => .inr h)).setCell (p := ⟨s, 4, none⟩) (.inl (.inl rfl)) _
 have hs : w'.heap[s]? = _ := (hkp.block s h.lt h.so).trans h.cell
 have hm : ¬ (k.m = s ∨ (Value.slice k.lo.A k.lo.n k.lo.c).ownBlock = some k.m) := fun e => e.elim (fun e => h.sm e.symm) h.mo
 have hml := h.map.lt
 have hlt := h.lt
 have hne : ∀ j, (Value.slice A (k.lo.n + 1) c).ownBlock = some j → j ≠ s ∧ j ≠ k.m := fun j hj => by
  rcases of_append hap j hj with e | e
  ·exact ⟨fun e2 => h.so (by rw [e, e2]), fun e2 => h.mo (by rw [e, e2])⟩
  ·omega
 refine ⟨⟨set_cells hs 4 _, h.map.keep hk1 hm, ⟨fs, own_keep hap.own ((Keep.refl (fun j => j = s) w').setCell (p := ⟨s, 4, none⟩) (.inl rfl) _) (fun j hj e => (hne j hj).1 e)⟩, h.ro.keep hk1 (fun j hj e => h.g j hj (e.elim .inl (fun e => .inr (.inr e)))), h.sm, fun e => (hne _ e).1 rfl, fun e => (hne _ e).2 rfl, fun j hj e => ?_⟩, hk1⟩
 rcases e with e | e | e
 ·exact h.g j hj (.inl e)
 ·exact h.g j hj (.inr (.inl e))
 ·rcases of_append hap j e with e | e
  ·exact h.g j hj (.inr (.inr e))
  ·have := h.ro.lt hj
   omega
theorem kdo_clear {s : Nat} {k : KS} {G : Nat → Prop} {w : World} (h : KAt s k G w) (hn : k.lo.n ≤ 4096) : Calls Tryz.prog 187 #[.pointer (some ⟨s, 0, none⟩), .func (.func 219) #[] #[]] w fun e w' => (∃ v, e = .returned v) ∧ ∃ A c m, KAt s ((k.clear m).step A c) NoB w' ∧ Keep (fun j => j = s ∨ (Value.slice k.lo.A k.lo.n k.lo.c).ownBlock = some j) w w' ∧ w.heap.size ≤ m ∧ ∀ j, (Value.slice A (k.lo.n + 1) c).ownBlock = some j → (Value.slice k.lo.A k.lo.n k.lo.c).ownBlock = some j ∨ w.heap.size ≤ j := by
 have H := LH h
 clear h
 go_enter Tryz.func187, Tryz.ntmps187
 go_wp2_with fail
 refine (kclear1_calls H.out).mono ?_
 rintro e w1 ⟨⟨v, rfl⟩, h1, hk⟩
 have HK := LH hk
 have H1 := LH h1
 clear hk h1
 obtain ⟨c0, c1, c2, c3, c4, cf⟩ := H1.out.cells
 have hlo : (k.clear w.heap.size).lo = k.lo := rfl
 rw [hlo] at c4
 clear hlo
 obtain ⟨fs, hr⟩ := H1.out.row
 have HR := LH hr
 clear hr
 go_wp2_with (at_builtin; refine wpList_app _ rfl _ _ 181 181 rfl 0 194 .nilFunc 1 8 u_steps info_step rfl (.slice k.lo.A k.lo.n k.lo.c) k.lo.n fs rfl (.slice (some ⟨w1.heap.size, 0, none⟩) 1 1) 1 [.func (.func 219) #[] #[]] rfl ?_ (by exact own_keep HR.out ((Keep.refl NoB w1).alloc _) (fun _ _ h => h)) (by exact Src.ofSlice _ u_steps ⟨w1.heap.size, 0, none⟩ 1 1 _ rfl (World.news_of_block (cs := #[.func (.func 219) #[] #[]]) (t := 194) (fr := (0, 0)) (heap_alloc_new w1 _)) (by simp [Value.oneCell'])) (by simp only [maxLen]; omega) (by omega) (by exact Nat.zero_le _); intro v2 w2 hap; refine Hid.out ?_)
 refine LH ?_
 obtain ⟨A2, c2', rfl, _⟩ := own_slice hap.own
 have hg := (Keep.refl NoB w1).alloc (.cells #[.func (.func 219) #[] #[]] 194)
 have hst := (H1.out.grow hg).stepped hap
 have hof : ∀ j, (Value.slice A2 (k.lo.n + 1) c2').ownBlock = some j → (Value.slice k.lo.A k.lo.n k.lo.c).ownBlock = some j ∨ w.heap.size ≤ j := fun j hj => (of_append hap j hj).imp id (fun e => by have := HK.out.size; simp at e; omega)
 have hkk := (HK.out.mono (T := fun j => j = s ∨ (Value.slice k.lo.A k.lo.n k.lo.c).ownBlock = some j) (fun _ h => .inl h)).trans ((hg.mono (T := fun j => j = s ∨ (Value.slice k.lo.A k.lo.n k.lo.c).ownBlock = some j) (fun _ h => h.elim)).trans hst.2 (fun j hj => .inl hj)) (fun j hj => .inl hj)
 have HST := LH hst.1
 have HKK := LH hkk
 have HOF := LH hof
 have hcw : w2.cell? ⟨s, 4, none⟩ = some (.slice k.lo.A k.lo.n k.lo.c) ∧ ∀ o, w2.frozen? ⟨s, o, none⟩ = false := by
  have hh : w2.heap[s]? = _ := (((Keep.refl _ _).grown hap.grew (fun j hj => .inl hj) : Keep (fun j => (Value.slice k.lo.A k.lo.n k.lo.c).ownBlock = some j) _ _).block s (H1.out.grow hg).lt H1.out.so).trans (H1.out.grow hg).cell
  exact ⟨World.news_of_block hh 4 _ rfl, fun o => frozen0 o hh⟩
 clear hst hkk hof hap hg c0 c1 c2 c3 c4 cf
 obtain ⟨c4, cf⟩ := hcw
 go_wp2
 go_end0
 exact ⟨⟨_, rfl⟩, A2, c2', _, HST.out, HKK.out, Nat.le_refl _, HOF.out⟩
theorem kclear_calls {s : Nat} {k : KS} {G : Nat → Prop} {w : World} (h : KAt s k G w) (hn : k.lo.n ≤ 4096) : Calls Tryz.prog 165 #[.pointer (some ⟨s, 0, none⟩)] w fun e w' => (∃ v, e = .returned v) ∧ ∃ A c m, KAt s ((k.clear m).step A c) NoB w' ∧ Keep (fun j => j = s ∨ (Value.slice k.lo.A k.lo.n k.lo.c).ownBlock = some j) w w' ∧ w.heap.size ≤ m ∧ ∀ j, (Value.slice A (k.lo.n + 1) c).ownBlock = some j → (Value.slice k.lo.A k.lo.n k.lo.c).ownBlock = some j ∨ w.heap.size ≤ j := by
 have H := LH h
 clear h
 go_enter Tryz.func165, Tryz.ntmps165
 go_wp2_with fail
 refine (kdo_clear H.out hn).mono ?_
 rintro e w1 ⟨⟨v, rfl⟩, h1⟩
 have H1 := LH h1
 clear h1
 go_wp2
 go_end0
 exact ⟨⟨_, rfl⟩, H1.out⟩
theorem okI_small {i : Nat} (hi : i < 512) : okI (i : Int) := by
 have h1 : IntKind.i64.min = -9223372036854775808 := rfl
 have h2 : IntKind.i64.max = 9223372036854775807 := rfl
 simp only [okI, Lit.wf, h1, h2, Bool.and_eq_true, decide_eq_true_eq]
 omega
def KS.put (k : KS) (i : Nat) (x : Ck) : KS := { k with n := k.n + 1, f := fun j => if j = i then some x else k.f j }
theorem KMap.putD {m n : Nat} {f : Nat → Option Ck} {w w' : World} {D : DataW Unit} (hD : ∀ k, okI k → ∀ z, D.atKey (.int .i64 k) z = atF f k z) (ho : w.ownsMap Tryz.prog 3 slR m n D) (i : Nat) (hi : i < 512) (x : Ck) (h' : w'.ownsMap Tryz.prog 3 slR m (n + 1) (D.put (.int .i64 i) x.d)) : KMap m (n + 1) (fun j => if j = i then some x else f j) w' := by
 refine ⟨_, h', fun k hk z => ?_⟩
 by_cases e : k = (i : Int)
 ·subst e
  rw [Maps.atKey_put_same ho.isMap (isKey _)]
  simp [atF]
 ·rw [Maps.atKey_put_other (by intro h; exact e (by injection h)), hD k hk z]
  unfold atF
  by_cases h0 : 0 ≤ k
  ·have e2 : k.toNat ≠ i := by omega
   simp [h0, e2]
  ·rw [if_neg h0, if_neg h0]
theorem kput1_calls {s : Nat} {k : KS} {G : Nat → Prop} {w : World} (h : KAt s k G w) (hn : k.n ≤ 4096) (i : Nat) (hi : i < 512) (x : Ck) (hx : Foot (SliceR 1 (.slice (some ⟨x.b, 0, none⟩) x.bs.length x.c) x.bs.length (u8s x.bs)) w (fun j => j = x.b)) (hxk : ¬ KF s k x.b) (p q : Nat)
    (hp : w.heap[p]? = some (.cells #[.slice (some ⟨x.b, 0, none⟩) x.bs.length x.c] 23 (0, 0))) (hq : w.heap[q]? = some (.cells #[.int .i64 i] 3 (0, 0))) :
    Calls Tryz.prog 232 #[.pointer (some ⟨s, 2, none⟩), .pointer (some ⟨p, 0, none⟩), .pointer (some ⟨q, 0, none⟩)] w fun e w' => (∃ v, e = .returned v) ∧ KAt s (k.put i x) (fun j => G j ∨ j = x.b) w' ∧ Keep (fun j => j = k.m) w w' := by
 obtain ⟨c0, c1, c2, c3, c4, cf⟩ := h.cells
 have zp : w.cell? ⟨p, 0, none⟩ = _ := World.news_of_block hp 0 _ rfl
 have zq : w.cell? ⟨q, 0, none⟩ = _ := World.news_of_block hq 0 _ rfl
 obtain ⟨D, ho, hD⟩ := h.map
 obtain ⟨w', hrun, ho', hgr⟩ := (show w.drew.ownsMap _ _ _ _ _ _ from ho).update keyed_int u_chunks (by simp only [maxLen]; omega) (key := .int .i64 i) (val := .slice (some ⟨x.b, 0, none⟩) x.bs.length x.c) (key_int (okI_small hi)) (d := x.d) (ps := []) rfl
 have hkp : Keep (fun j => j = k.m) w w' := ((Keep.refl _ w).drew).grown hgr (fun j hj => .inl (Option.some.inj hj).symm)
 have hN : KAt s (k.put i x) (fun j => G j ∨ j = x.b) w' := by
  obtain ⟨fs, hr⟩ := h.row
  have hm := KMap.putD hD ho i hi x ho'
  have hro := (h.ro.and hx).keep hkp (fun j hj e => by
   rcases hj with hj | hj
   ·exact h.g j hj (.inr (.inl e))
   ·exact hxk (.inr (.inl (by rw [← hj, e]))))
  refine ⟨(hkp.block s h.lt h.sm).trans h.cell, hm, ⟨fs, own_keep hr hkp (fun j hj e => h.mo (by subst e; exact hj))⟩, hro.imp (fun W' hh j y hy => ?_), h.sm, h.so, h.mo, fun j hj => ?_⟩
  ·simp only [KS.put] at hy
   split at hy
   ·cases hy; exact hh.2
   ·exact hh.1 j y hy
  ·rcases hj with hj | hj
   ·exact h.g j hj
   ·rw [hj]; exact hxk
 have HN := LH hN
 have HK := LH hkp
 clear hN hkp hgr ho' ho hD hx hxk h hn hp hq
 go_enter Tryz.func232, Tryz.ntmps232
 go_wp2
 refine region_ord [0, 1, 2, 3, 4, 5, 6] [6] [3, 4, 5] [6] rfl (by kernel_rfl) ?_
 iterate 3
  refine ord_pure rfl rfl rfl rfl rfl (fun _ _ _ _ h => h) ?_ ?_ ?_ ?_ ?_
  rotate_left 2
  ·intro w'; go_simp; with_reducible rfl
  ·simp only [Act.put, pB, pC, pD]; rfl
 refine ord_read rfl rfl rfl rfl rfl (fun _ _ _ _ h => h) ?_ ?_ ?_ ?_ ?_
 rotate_left 2
 ·intro w' hg; have q := hg.cell c2 (fun h => h); go_simp; with_reducible rfl
 ·simp only [Act.put, pB, pC, pD]; rfl
 refine ord_read rfl rfl rfl rfl rfl (fun _ _ _ _ h => h) ?_ ?_ ?_ ?_ ?_
 rotate_left 2
 ·intro w' hg; have q := hg.cell zq (fun h => h); go_simp; with_reducible rfl
 ·simp only [Act.put, pB, pC, pD]; rfl
 refine ord_read rfl rfl rfl rfl rfl (fun _ _ _ _ h => h) ?_ ?_ ?_ ?_ ?_
 rotate_left 2
 ·intro w' hg; have q := hg.cell zp (fun h => h); go_simp; with_reducible rfl
 ·simp only [Act.put, pB, pC, pD]; rfl
 refine ord_put rfl rfl rfl rfl w' ?_ (fun h => absurd (by simp) h) ?_
 ·go_simp
 refine ord_nil ?_
 go_wp2
 go_end0
 exact ⟨⟨_, rfl⟩, HN.out, HK.out⟩
end Go.Proofs.YtfkcpaahdlkcdaaGreat

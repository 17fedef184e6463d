import Derived.Test.YtfkcpaahdlkcdaaGreatRSendRetries07
import Derived.Test.YtfkcpaahdlkcdaaGreatRSendRetries08
set_option linter.unusedSimpArgs false
set_option linter.unusedVariables false
set_option maxRecDepth 100000
set_option maxHeartbeats 16000000
namespace Go.Proofs.YtfkcpaahdlkcdaaGreat
open Go.RowKit
theorem cells15 {w : World} {g T : Nat} {a0 a1 a2 a3 a4 a5 a6 a7 a8 a9 a10 a11 a12 a13 a14 : Value} (h : w.heap[g]? = some (.cells #[a0, a1, a2, a3, a4, a5, a6, a7, a8, a9, a10, a11, a12, a13, a14] T (0, 0))) : w.cell? ⟨g, 0, none⟩ = some a0 ∧ w.cell? ⟨g, 1, none⟩ = some a1 ∧ w.cell? ⟨g, 2, none⟩ = some a2 ∧ w.cell? ⟨g, 3, none⟩ = some a3 ∧ w.cell? ⟨g, 4, none⟩ = some a4 ∧ w.cell? ⟨g, 5, none⟩ = some a5 ∧ w.cell? ⟨g, 6, none⟩ = some a6 ∧ w.cell? ⟨g, 7, none⟩ = some a7 ∧ w.cell? ⟨g, 8, none⟩ = some a8 ∧ w.cell? ⟨g, 9, none⟩ = some a9 ∧ w.cell? ⟨g, 10, none⟩ = some a10 ∧ w.cell? ⟨g, 11, none⟩ = some a11 ∧ w.cell? ⟨g, 12, none⟩ = some a12 ∧ w.cell? ⟨g, 13, none⟩ = some a13 ∧ w.cell? ⟨g, 14, none⟩ = some a14 ∧ ∀ o, w.frozen? ⟨g, o, none⟩ = false :=
 ⟨World.news_of_block h 0 _ rfl, World.news_of_block h 1 _ rfl, World.news_of_block h 2 _ rfl, World.news_of_block h 3 _ rfl, World.news_of_block h 4 _ rfl, World.news_of_block h 5 _ rfl, World.news_of_block h 6 _ rfl, World.news_of_block h 7 _ rfl, World.news_of_block h 8 _ rfl, World.news_of_block h 9 _ rfl, World.news_of_block h 10 _ rfl, World.news_of_block h 11 _ rfl, World.news_of_block h 12 _ rfl, World.news_of_block h 13 _ rfl, World.news_of_block h 14 _ rfl, fun o => frozen0 o h⟩
theorem stored15_0 {w : World} {g T : Nat} {a0 a1 a2 a3 a4 a5 a6 a7 a8 a9 a10 a11 a12 a13 a14 : Value} (u : Value) (h : w.heap[g]? = some (.cells #[a0, a1, a2, a3, a4, a5, a6, a7, a8, a9, a10, a11, a12, a13, a14] T (0, 0))) : (w.setCell ⟨g, 0, none⟩ u).heap[g]? = some (.cells #[u, a1, a2, a3, a4, a5, a6, a7, a8, a9, a10, a11, a12, a13, a14] T (0, 0)) := by
 simp only [World.setCell, Array.getElem?_modify]
 simp [h]
theorem stored15_5 {w : World} {g T : Nat} {a0 a1 a2 a3 a4 a5 a6 a7 a8 a9 a10 a11 a12 a13 a14 : Value} (u : Value) (h : w.heap[g]? = some (.cells #[a0, a1, a2, a3, a4, a5, a6, a7, a8, a9, a10, a11, a12, a13, a14] T (0, 0))) : (w.setCell ⟨g, 5, none⟩ u).heap[g]? = some (.cells #[a0, a1, a2, a3, a4, u, a6, a7, a8, a9, a10, a11, a12, a13, a14] T (0, 0)) := by
 simp only [World.setCell, Array.getElem?_modify]
 simp [h]
theorem stored15_10 {w : World} {g T : Nat} {a0 a1 a2 a3 a4 a5 a6 a7 a8 a9 a10 a11 a12 a13 a14 : Value} (u : Value) (h : w.heap[g]? = some (.cells #[a0, a1, a2, a3, a4, a5, a6, a7, a8, a9, a10, a11, a12, a13, a14] T (0, 0))) : (w.setCell ⟨g, 10, none⟩ u).heap[g]? = some (.cells #[a0, a1, a2, a3, a4, a5, a6, a7, a8, a9, u, a11, a12, a13, a14] T (0, 0)) := by
 simp only [World.setCell, Array.getElem?_modify]
 simp [h]
theorem stored15_11 {w : World} {g T : Nat} {a0 a1 a2 a3 a4 a5 a6 a7 a8 a9 a10 a11 a12 a13 a14 : Value} (u : Value) (h : w.heap[g]? = some (.cells #[a0, a1, a2, a3, a4, a5, a6, a7, a8, a9, a10, a11, a12, a13, a14] T (0, 0))) : (w.setCell ⟨g, 11, none⟩ u).heap[g]? = some (.cells #[a0, a1, a2, a3, a4, a5, a6, a7, a8, a9, a10, u, a12, a13, a14] T (0, 0)) := by
 simp only [World.setCell, Array.getElem?_modify]
 simp [h]
theorem stored15_12 {w : World} {g T : Nat} {a0 a1 a2 a3 a4 a5 a6 a7 a8 a9 a10 a11 a12 a13 a14 : Value} (u : Value) (h : w.heap[g]? = some (.cells #[a0, a1, a2, a3, a4, a5, a6, a7, a8, a9, a10, a11, a12, a13, a14] T (0, 0))) : (w.setCell ⟨g, 12, none⟩ u).heap[g]? = some (.cells #[a0, a1, a2, a3, a4, a5, a6, a7, a8, a9, a10, a11, u, a13, a14] T (0, 0)) := by
 simp only [World.setCell, Array.getElem?_modify]
 simp [h]
theorem stored15_13 {w : World} {g T : Nat} {a0 a1 a2 a3 a4 a5 a6 a7 a8 a9 a10 a11 a12 a13 a14 : Value} (u : Value) (h : w.heap[g]? = some (.cells #[a0, a1, a2, a3, a4, a5, a6, a7, a8, a9, a10, a11, a12, a13, a14] T (0, 0))) : (w.setCell ⟨g, 13, none⟩ u).heap[g]? = some (.cells #[a0, a1, a2, a3, a4, a5, a6, a7, a8, a9, a10, a11, a12, u, a14] T (0, 0)) := by
 simp only [World.setCell, Array.getElem?_modify]
 simp [h]
structure Snd where
 session : Int
 sz : List Int
 sum : Nat
 ch : List (List Int)
 win : Int
 back : Int
 retry : Int
 quota : Int
 phase : Int
 err : Int
 acked : List Int
 tries : List Int
 tm : List KT
structure SP where
 q : Nat
 rt : Nat
 As : Option Addr
 Ac : Option Addr
 Aa : Option Addr
 cs : Nat
 cc : Nat
 ca : Nat
 ct : Nat
structure OkS (d : Snd) : Prop where
 s0 : 0 ≤ d.session
 s1 : d.session ≤ 18446744073709551615
 sum : d.sum < 4294967296
 fit : fitsB d.sz = true
 ch : d.ch.length = chunksN d.sz
 chl : ∀ x ∈ d.ch, x.length ≤ 64 ∧ ∀ c ∈ x, 0 ≤ c ∧ c ≤ 255
 conf : OkC d.win d.back d.retry d.quota
 phase : d.phase = 1 ∨ d.phase = 2 ∨ d.phase = 3
 err : 0 ≤ d.err ∧ d.err ≤ 65535
 acked : OkB d.acked
 alen : d.acked.length = (d.tries.length + 7) / 8
 tlen : d.tries.length = pagesN d.sz + d.ch.length
 tr : ∀ x ∈ d.tries, 0 ≤ x ∧ x ≤ d.retry
 tm : ∀ x ∈ d.tm, 0 ≤ x.1 ∧ x.1 < d.tries.length
def SF (g rt : Nat) (Fq : Nat → Prop) : Nat → Prop := fun k => k = g ∨ k = rt ∨ Fq k
structure SAt (g : Nat) (p : SP) (d : Snd) (Fq G : Nat → Prop) (w : World) : Prop where
 cell : w.heap[g]? = some (.cells #[.pointer (some ⟨p.q, 0, none⟩), .int .u64 d.session, .slice p.As d.sz.length p.cs, .int .u32 (d.sum : Nat), .int .i64 (pagesN d.sz : Nat), .slice p.Ac d.ch.length p.cc, .int .i64 d.win, .int .i64 d.back, .int .i64 d.retry, .int .i64 d.quota, .int .i64 d.phase, .int .u16 d.err, .slice p.Aa d.acked.length p.ca, .slice (some ⟨p.rt, 0, none⟩) d.tries.length p.ct, .int .u64 d.session] 131 (0, 0))
 que : Que p.q d.tm Fq w
 tri : w.ownsRow 0 3 1 (.slice (some ⟨p.rt, 0, none⟩) d.tries.length p.ct) d.tries.length (ints d.tries)
 ro : Foot (fun w => SliceR 1 (.slice p.As d.sz.length p.cs) d.sz.length (ints d.sz) w ∧ RowsR .u8 d.ch (.slice p.Ac d.ch.length p.cc) w ∧ SliceR 1 (.slice p.Aa d.acked.length p.ca) d.acked.length (u8s d.acked) w) w G
 dis : g ≠ p.rt ∧ ¬ Fq g ∧ ¬ Fq p.rt ∧ ¬ G g ∧ ¬ G p.rt ∧ ∀ k, Fq k → ¬ G k
 lt : ∀ k, Fq k → k < w.heap.size
 ok : OkS d
theorem SAt.keep {g : Nat} {p : SP} {d : Snd} {Fq G S : Nat → Prop} {w w' : World} (h : SAt g p d Fq G w) (hk : Keep S w w') (hF : ∀ k, SF g p.rt Fq k → ¬ S k) (hG : ∀ k, G k → ¬ S k) : SAt g p d Fq G w' :=
 ⟨(hk.block g (gE h.cell).1 (hF g (.inl rfl))).trans h.cell, h.que.keep hk (fun k hq => hF k (.inr (.inr hq))), own_keep h.tri hk (fun k hq => by cases hq; exact hF _ (.inr (.inl rfl))), h.ro.keep hk hG, h.dis, fun k hq => Nat.lt_of_lt_of_le (h.lt k hq) hk.size, h.ok⟩
theorem SAt.grow {g : Nat} {p : SP} {d : Snd} {Fq G : Nat → Prop} {w w' : World} (h : SAt g p d Fq G w) (hk : Grow w w') : SAt g p d Fq G w' := h.keep hk (fun _ _ h => h) (fun _ _ h => h)
theorem OkS.n {d : Snd} (h : OkS d) : 2 ≤ d.tries.length ∧ d.tries.length ≤ 516 ∧ 1 ≤ pagesN d.sz ∧ pagesN d.sz ≤ 4 ∧ 1 ≤ d.ch.length ∧ d.ch.length ≤ 512 := by
 obtain ⟨h1, h2, h3, h4⟩ := fits_parts h.fit
 have h5 : 1 ≤ d.sz.sum := by
  have hf := h.fit
  unfold fitsB at hf
  simp only [decide_eq_true_eq] at hf
  have hh := hf.2.2.1
  cases hsz : d.sz with
  | nil => rw [hsz] at h1; simp at h1
  | cons x r =>
   rw [hsz] at hh h3
   have := sum_nn (l := r) (fun y hy => h3 y (List.mem_cons_of_mem _ hy))
   simp at hh ⊢
   omega
 have h6 := h.tlen
 have h7 := h.ch
 unfold chunksN at h7
 unfold pagesN at h6 ⊢
 omega
theorem gram_calls {g : Nat} {p : SP} {d : Snd} {Fq G : Nat → Prop} {w : World} (h : SAt g p d Fq G w) (kind : Int) :
    Calls Tryz.prog 78 #[.pointer (some ⟨g, 0, none⟩), .int .i64 kind] w fun e w' => e = .returned (.agg #[.int .i64 kind, .int .u64 d.session, .int .i64 0, .int .i64 0, .int .u32 (d.sum : Nat), .slice none 0 0, .slice none 0 0]) ∧ Grow w w' := by
 have HG := LH ((Keep.refl NoB w).alloc (.cells #[.int .i64 0, .int .u64 0, .int .i64 0, .int .i64 0, .int .u32 0, .slice none 0 0, .slice none 0 0] 46))
 have H := LH (Grow.heap HG.out h.cell)
 have HC := LH (heap_alloc_new w (.cells #[.int .i64 0, .int .u64 0, .int .i64 0, .int .i64 0, .int .u32 0, .slice none 0 0, .slice none 0 0] 46))
 clear h
 go_enter Tryz.func78, Tryz.ntmps78
 go_wp2
 generalize w.alloc (.cells #[.int .i64 0, .int .u64 0, .int .i64 0, .int .i64 0, .int .u32 0, .slice none 0 0, .slice none 0 0] 46) = w1 at HG H HC ⊢
 obtain ⟨c0, c1, c2, c3, c4, c5, c6, c7, c8, c9, c10, c11, c12, c13, c14, cf⟩ := cells15 H.out
 obtain ⟨z0, z1, z2, z3, z4, z5, z6, zf⟩ := cells7 HC.out
 refine region_ord [0, 1, 2, 3, 4, 5, 6, 7, 8, 9, 10, 11] [11] [4, 9] [11] rfl (by kernel_rfl) ?_
 iterate 4
  refine ord_pure rfl rfl rfl rfl rfl (fun _ _ _ _ h => h) ?_ ?_ ?_ ?_ ?_
  rotate_left 2
  ·intro w'; go_simp; with_reducible rfl
  ·simp only [Act.put, pB, pC, pD]; rfl
 refine ord_read rfl rfl rfl rfl rfl (fun _ _ _ _ h => h) ?_ ?_ ?_ ?_ ?_
 rotate_left 2
 ·intro w' hg; have q := hg.cell c14 (fun h => h); go_simp; with_reducible rfl
 ·simp only [Act.put, pB, pC, pD]; rfl
 iterate 4
  refine ord_pure rfl rfl rfl rfl rfl (fun _ _ _ _ h => h) ?_ ?_ ?_ ?_ ?_
  rotate_left 2
  ·intro w'; go_simp; with_reducible rfl
  ·simp only [Act.put, pB, pC, pD]; rfl
 refine ord_read rfl rfl rfl rfl rfl (fun _ _ _ _ h => h) ?_ ?_ ?_ ?_ ?_
 rotate_left 2
 ·intro w' hg; have q := hg.cell c3 (fun h => h); go_simp; with_reducible rfl
 ·simp only [Act.put, pB, pC, pD]; rfl
 refine ord_pure rfl rfl rfl rfl rfl (fun _ _ _ _ h => h) ?_ ?_ ?_ ?_ ?_
 rotate_left 2
 ·intro w'; go_simp; with_reducible rfl
 ·simp only [Act.put, pB, pC, pD]; rfl
 refine ord_put rfl rfl rfl rfl ?_ ?_ (fun h => absurd (by simp) h) ?_
 rotate_left
 ·go_simp; with_reducible rfl
 refine ord_nil ?_
 have HS := LH (stored7 (.int .i64 kind) (.int .u64 d.session) (.int .i64 0) (.int .i64 0) (.int .u32 (d.sum : Nat)) (.slice none 0 0) (.slice none 0 0) HG.out (Nat.le_refl _) HC.out)
 obtain ⟨W2, hW2⟩ : ∃ W2, (((((((w1.setCell ⟨w.heap.size, 0, none⟩ (.int .i64 kind)).setCell ⟨w.heap.size, 1, none⟩ (.int .u64 d.session)).setCell ⟨w.heap.size, 2, none⟩ (.int .i64 0)).setCell ⟨w.heap.size, 3, none⟩ (.int .i64 0)).setCell ⟨w.heap.size, 4, none⟩ (.int .u32 (d.sum : Nat))).setCell ⟨w.heap.size, 5, none⟩ (.slice none 0 0)).setCell ⟨w.heap.size, 6, none⟩ (.slice none 0 0)) = W2 := ⟨_, rfl⟩
 rw [hW2] at HS ⊢
 clear hW2 c0 c1 c2 c3 c4 c5 c6 c7 c8 c9 c10 c11 c12 c13 c14 cf z0 z1 z2 z3 z4 z5 z6 zf
 obtain ⟨z0, z1, z2, z3, z4, z5, z6, zf⟩ := cells7 HS.out.1
 go_wp2
 refine bodyPost_ret (v := .agg #[.int .i64 kind, .int .u64 d.session, .int .i64 0, .int .i64 0, .int .u32 (d.sum : Nat), .slice none 0 0, .slice none 0 0]) ?_ rfl ⟨rfl, HS.out.2.drew⟩
 rw [results_cell1 rfl]; go_simp
theorem OkS.ended {d : Snd} (h : OkS d) (ph er : Int) (hp : ph = 1 ∨ ph = 2 ∨ ph = 3) (he : 0 ≤ er ∧ er ≤ 65535) : OkS { d with phase := ph, err := er, tm := [] } :=
 ⟨h.s0, h.s1, h.sum, h.fit, h.ch, h.chl, h.conf, hp, he, h.acked, h.alen, h.tlen, h.tr, fun x hx => by cases hx⟩
theorem SAt.gq {g : Nat} {p : SP} {d : Snd} {Fq G : Nat → Prop} {w : World} (h : SAt g p d Fq G w) : g < w.heap.size := (gE h.cell).1
theorem SAt.rlt {g : Nat} {p : SP} {d : Snd} {Fq G : Nat → Prop} {w : World} (h : SAt g p d Fq G w) : p.rt < w.heap.size := (h.tri.lt p.rt rfl).2
theorem end_calls {g : Nat} {p : SP} {d : Snd} {Fq G : Nat → Prop} {w : World} (h : SAt g p d Fq G w) (ph er : Int) (hp : ph = 1 ∨ ph = 2 ∨ ph = 3) (he : 0 ≤ er ∧ er ≤ 65535) :
    Calls Tryz.prog 77 #[.pointer (some ⟨g, 0, none⟩), .int .i64 ph, .int .u16 er] w fun e w' => (∃ v, e = .returned v) ∧ ∃ q Fq', SAt g { p with q := q } { d with phase := ph, err := er, tm := [] } Fq' G w' ∧ Keep (SF g p.rt Fq) w w' ∧ ∀ k, Fq' k → w.heap.size ≤ k := by
 have H := LH h
 have HP := LH hp
 have HE := LH he
 clear h hp he
 go_enter Tryz.func77, Tryz.ntmps77
 go_wp2_with fail
 refine (tnew_calls w).mono ?_
 rintro e w1 ⟨q, F, rfl, hQ, hg, hF⟩
 obtain ⟨c0, c1, c2, c3, c4, c5, c6, c7, c8, c9, c10, c11, c12, c13, c14, cf⟩ := cells15 (Grow.heap hg H.out.cell)
 have hK : Keep (fun k => k = g) w1 (((w1.setCell ⟨g, 10, none⟩ (.int .i64 ph)).setCell ⟨g, 11, none⟩ (.int .u16 er)).setCell ⟨g, 0, none⟩ (.pointer (some ⟨q, 0, none⟩))) :=
  (((Keep.refl (fun k => k = g) w1).setCell (p := ⟨g, 10, none⟩) (.inl rfl) _).setCell (p := ⟨g, 11, none⟩) (.inl rfl) _).setCell (p := ⟨g, 0, none⟩) (.inl rfl) _
 have hgl := H.out.gq
 have hrl := H.out.rlt
 obtain ⟨d1, d2, d3, d4, d5, d6⟩ := H.out.dis
 have HS : Hid (SAt g { p with q := q } { d with phase := ph, err := er, tm := [] } F G (((w1.setCell ⟨g, 10, none⟩ (.int .i64 ph)).setCell ⟨g, 11, none⟩ (.int .u16 er)).setCell ⟨g, 0, none⟩ (.pointer (some ⟨q, 0, none⟩)))) := by
  refine ⟨stored15_0 _ (stored15_11 _ (stored15_10 _ (Grow.heap hg H.out.cell))), hQ.keep hK (fun k hk e => by have := (hF k hk).1; omega), own_keep (own_keep H.out.tri hg (fun _ _ h => h)) hK (fun k hk e => by cases hk; exact d1 e.symm), (H.out.ro.grow hg).keep hK (fun k hk e => d4 (e ▸ hk)), ⟨d1, fun h => ?_, fun h => ?_, d4, d5, fun k hk h2 => ?_⟩, fun k hk => by have := (hF k hk).2; simpa using this, H.out.ok.ended ph er HP.out HE.out⟩
  ·have := (hF _ h).1; omega
  ·have := (hF p.rt h).1; omega
  ·have := (hF _ hk).1; have := H.out.ro.lt h2; omega
 have HK : Hid (Keep (SF g p.rt Fq) w (((w1.setCell ⟨g, 10, none⟩ (.int .i64 ph)).setCell ⟨g, 11, none⟩ (.int .u16 er)).setCell ⟨g, 0, none⟩ (.pointer (some ⟨q, 0, none⟩)))) :=
  LH ((hg.mono (fun _ h => h.elim)).trans (hK.mono (fun k e => (.inl e : SF g p.rt Fq k))) (fun _ h => .inl h))
 have HF := LH hF
 clear hK hQ hg hF d1 d2 d3 d4 d5 d6
 go_wp2
 go_end0
 exact ⟨⟨_, rfl⟩, q, F, HS.out, HK.out, fun k hk => (HF.out k hk).1⟩
def pauseN (back tries : Int) : Int := min back (2 ^ (min tries 10).toNat)
theorem pause_calls {g : Nat} {p : SP} {d : Snd} {Fq G : Nat → Prop} {w : World} (h : SAt g p d Fq G w) (n : Int) (h0 : 0 ≤ n) :
    Calls Tryz.prog 81 #[.pointer (some ⟨g, 0, none⟩), .int .i64 n] w fun e w' => e = .returned (.int .i64 (pauseN d.back n)) ∧ Grow w w' := by
 obtain ⟨c0, c1, c2, c3, c4, c5, c6, c7, c8, c9, c10, c11, c12, c13, c14, cf⟩ := cells15 h.cell
 clear h
 go_enter Tryz.func81, Tryz.ntmps81
 go_wp2
 refine region_ord [0, 1, 2, 3, 4, 5, 6, 7, 8, 9] [9] [4] [] rfl (by kernel_rfl) ?_
 iterate 4
  refine ord_pure rfl rfl rfl rfl rfl (fun _ _ _ _ h => h) ?_ ?_ ?_ ?_ ?_
  rotate_left 2
  ·intro w'; go_simp; with_reducible rfl
  ·simp only [Act.put, pB, pC, pD]; rfl
 refine ord_read rfl rfl rfl rfl rfl (fun _ _ _ _ h => h) ?_ ?_ ?_ ?_ ?_
 rotate_left 2
 ·intro w' hg; have q := hg.cell c7 (fun h => h); go_simp; with_reducible rfl
 ·simp only [Act.put, pB, pC, pD]; rfl
 iterate 2
  refine ord_pure rfl rfl rfl rfl rfl (fun _ _ _ _ h => h) ?_ ?_ ?_ ?_ ?_
  rotate_left 2
  ·intro w'; go_simp; with_reducible rfl
  ·simp only [Act.put, pB, pC, pD]; rfl
 obtain ⟨m, hm, hm10⟩ : ∃ m : Nat, (if 10 < n then 10 else n) = m ∧ m ≤ 10 := by
  by_cases hh : 10 < n
  ·exact ⟨10, by rw [if_pos hh]; rfl, by omega⟩
  ·exact ⟨n.toNat, by rw [if_neg hh]; omega, by omega⟩
 have HE : Hid ((if 2 ^ m < d.back then 2 ^ m else d.back) = pauseN d.back n) := LH (by
  unfold pauseN
  rw [show (min n 10).toNat = m from by split at hm <;> omega]
  generalize (2 : Int) ^ m = x
  split <;> omega)
 rw [hm]
 have hm0 : (0 : Int) ≤ m := by omega
 have hm64 : (m : Int) ≤ 64 := by omega
 have hmn : ((m : Int)).toNat = m := Int.toNat_natCast m
 have hw : IntKind.i64.wrap (2 ^ m) = 2 ^ m := by
  clear hm HE hm0 hm64 hmn
  have : ∀ m : Fin 11, IntKind.i64.wrap (2 ^ m.1) = 2 ^ m.1 := by decide
  exact this ⟨m, by omega⟩
 clear hm
 iterate 2
  refine ord_pure rfl rfl rfl rfl rfl (fun _ _ _ _ h => h) ?_ ?_ ?_ ?_ ?_
  rotate_left 2
  ·intro w'; go_simp; with_reducible rfl
  ·simp only [Act.put, pB, pC, pD]; rfl
 refine ord_set rfl rfl rfl rfl ?_ ?_ ?_ ?_ ?_
 rotate_left 2
 ·go_simp; with_reducible rfl
 ·simp only [Act.put, pB, pC, pD]; rfl
 refine ord_nil ?_
 rw [HE.out]
 go_wp2
 go_ret
 exact ⟨rfl, (Keep.refl _ _).drew⟩
theorem waits_calls {g : Nat} {p : SP} {d : Snd} {Fq G : Nat → Prop} {w : World} (h : SAt g p d Fq G w) :
    Calls Tryz.prog 22 #[.pointer (some ⟨g, 0, none⟩)] w fun e w' => e = .returned (.int .i64 d.tm.length) ∧ w = w' := by
 obtain ⟨c0, c1, c2, c3, c4, c5, c6, c7, c8, c9, c10, c11, c12, c13, c14, cf⟩ := cells15 h.cell
 have H := LH h
 clear h
 go_enter Tryz.func22, Tryz.ntmps22
 go_wp2_with fail
 refine (tlen_calls H.out.que).mono ?_
 rintro e w1 ⟨rfl, rfl⟩
 go_wp2
 go_ret
 exact ⟨rfl, rfl⟩
theorem ints_set (l : List Int) (i : Nat) (x : Int) : (ints l).set i (.int .i64 x) = ints (l.set i x) := by
 unfold ints; exact List.map_set.symm
theorem okI_nat {k : Nat} (h : k ≤ 1000000) : okI (k : Int) := okI_of (by omega) (by omega)
def fullB (n : Nat) : Nat → List Int
 | 0 => makeB n
 | k + 1 => setB (fullB n k) k
theorem fullB_length (n : Nat) : ∀ k, (fullB n k).length = (n + 7) / 8
 | 0 => makeB_length n
 | k + 1 => by unfold fullB; rw [setB_length]; exact fullB_length n k
theorem fullB_get (n : Nat) : ∀ k, k ≤ n → ∀ j, getB (fullB n k) j = decide (j < k)
 | 0, _, j => by simp [fullB, getB_make]
 | k + 1, hk, j => by
  unfold fullB
  rw [getB_set, fullB_get n k (by omega), fullB_length]
  have : k / 8 < (n + 7) / 8 := by omega
  by_cases h : j = k
  ·subst h; simp [this]
  ·by_cases h2 : j < k
   ·simp [h2]; omega
   ·have : ¬ j < k + 1 := by omega
    simp [h, h2, this]
def endD (d : Snd) (ph er : Int) : Snd := { d with phase := ph, err := er, tm := [] }
theorem SAt.small {g : Nat} {p : SP} {d : Snd} {Fq G : Nat → Prop} {w : World} (h : SAt g p d Fq G w) : ∀ k, SF g p.rt Fq k → k < w.heap.size := fun k hk => by
 rcases hk with e | e | e
 ·rw [e]; exact h.gq
 ·rw [e]; exact h.rlt
 ·exact h.lt k e
theorem cells4 {w : World} {g T : Nat} {a0 a1 a2 a3 : Value} (h : w.heap[g]? = some (.cells #[a0, a1, a2, a3] T (0, 0))) : w.cell? ⟨g, 0, none⟩ = some a0 ∧ w.cell? ⟨g, 1, none⟩ = some a1 ∧ w.cell? ⟨g, 2, none⟩ = some a2 ∧ w.cell? ⟨g, 3, none⟩ = some a3 ∧ ∀ o, w.frozen? ⟨g, o, none⟩ = false :=
 ⟨World.news_of_block h 0 _ rfl, World.news_of_block h 1 _ rfl, World.news_of_block h 2 _ rfl, World.news_of_block h 3 _ rfl, fun o => frozen0 o h⟩
theorem stored4 {w0 w : World} {g T : Nat} {a0 a1 a2 a3 : Value} (n0 n1 n2 n3 : Value) (hg : Grow w0 w) (hge : w0.heap.size ≤ g) (h : w.heap[g]? = some (.cells #[a0, a1, a2, a3] T (0, 0))) :
    ((((w.setCell ⟨g, 0, none⟩ n0).setCell ⟨g, 1, none⟩ n1).setCell ⟨g, 2, none⟩ n2).setCell ⟨g, 3, none⟩ n3).heap[g]? = some (.cells #[n0, n1, n2, n3] T (0, 0)) ∧ Grow w0 ((((w.setCell ⟨g, 0, none⟩ n0).setCell ⟨g, 1, none⟩ n1).setCell ⟨g, 2, none⟩ n2).setCell ⟨g, 3, none⟩ n3) := by
 refine ⟨?_, ((((hg.setCell (p := ⟨g, 0, none⟩) (.inr hge) _).setCell (p := ⟨g, 1, none⟩) (.inr hge) _).setCell (p := ⟨g, 2, none⟩) (.inr hge) _).setCell (p := ⟨g, 3, none⟩) (.inr hge) _)⟩
 simp only [World.setCell, Array.getElem?_modify]
 simp [h]
def cntB (b : List Int) (p : Nat) : Nat → Nat
 | 0 => 0
 | k + 1 => cntB b p k + (if getB b (p + k) = true then 1 else 0)
theorem cntB_le (b : List Int) (p : Nat) : ∀ k, cntB b p k ≤ k
 | 0 => Nat.le_refl _
 | k + 1 => by
  have := cntB_le b p k
  unfold cntB
  split <;> omega
theorem status_calls {g : Nat} {p : SP} {d : Snd} {Fq G : Nat → Prop} {w : World} (h : SAt g p d Fq G w) :
    Calls Tryz.prog 20 #[.pointer (some ⟨g, 0, none⟩)] w fun e w' => e = .returned (.agg #[.int .i64 d.phase, .int .u16 d.err, .int .i64 (cntB d.acked (pagesN d.sz) d.ch.length : Nat), .int .i64 d.ch.length]) ∧ Grow w w' := by
 have hn := h.ok.n
 have hd0 := (Keep.refl NoB w).alloc (.cells #[.int .i64 0, .int .u16 0, .int .i64 0, .int .i64 0] 48)
 have HG := LH hd0
 have HC := LH (heap_alloc_new w (.cells #[.int .i64 0, .int .u16 0, .int .i64 0, .int .i64 0] 48))
 have H := LH (h.grow hd0)
 clear h hd0
 go_enter Tryz.func20, Tryz.ntmps20
 have c5 := (cells15 H.out.cell).2.2.2.2.2.1
 go_wp2
 clear c5
 generalize w.alloc (.cells #[.int .i64 0, .int .u16 0, .int .i64 0, .int .i64 0] 48) = w1 at HG H HC ⊢
 obtain ⟨n, hn9⟩ : ∃ n, d.ch.length = n := ⟨_, rfl⟩
 obtain ⟨pp, hp9⟩ : ∃ pp, pagesN d.sz = pp := ⟨_, rfl⟩
 have HN := LH hn9
 have HP := LH hp9
 rw [hn9, hp9] at hn
 rw [hn9]
 clear hn9 hp9
 go_loopw [3, 13] (fun s v wr => ∃ k : Nat, k ≤ n ∧ v = .int .i64 k ∧ s = .int .i64 (cntB d.acked pp k : Nat) ∧ Hid (Grow w wr ∧ SAt g p d Fq G wr ∧ wr.heap[w.heap.size]? = some (.cells #[.int .i64 0, .int .u16 0, .int .i64 0, .int .i64 0] 48 (0, 0)))) (fun s v _ => n - (intOf v).toNat)
 case atStart => exact ⟨0, by omega, rfl, rfl, HG.out, H.out, HC.out⟩
 case round =>
  clear HG H HC
  obtain ⟨k, hk, rfl, rfl, HH⟩ := hrel
  obtain ⟨c0, c1, c2, c3, c4, c5, c6, c7, c8, c9, c10, c11, c12, c13, c14, cf⟩ := cells15 HH.out.2.1.cell
  rw [HP.out] at c4
  rw [HN.out] at c5
  have hcl := cntB_le d.acked pp k
  by_cases hlt : k < n
  ·have hlt' : (k : Int) < n := by omega
   have hw : IntKind.i64.wrap ((k : Int) + 1) = (k : Int) + 1 := IntWalk.i64_in _ (by omega)
   have hwc : IntKind.i64.wrap ((cntB d.acked pp k : Nat) + 1 : Int) = (cntB d.acked pp k : Nat) + 1 := IntWalk.i64_in _ (by omega)
   have hwp : IntKind.i64.wrap ((pp : Int) + k) = (pp : Int) + k := IntWalk.i64_in _ (by omega)
   have HB := LH HH.out.2.1.ok.acked
   have HR := LH (HH.out.2.1.grow (Keep.refl NoB wr).drew).ro.now.2.2
   go_wp2
   refine region_ord [0, 1, 2, 3, 4, 5, 6, 7, 8, 9, 10] [10] [3, 7] [] rfl (by kernel_rfl) ?_
   iterate 3
    refine ord_pure rfl rfl rfl rfl rfl (fun _ _ _ _ h => h) ?_ ?_ ?_ ?_ ?_
    rotate_left 2
    ·intro w'; go_simp; with_reducible rfl
    ·simp only [Act.put, pB, pC, pD]; rfl
   refine ord_read rfl rfl rfl rfl rfl (fun _ _ _ _ h => h) ?_ ?_ ?_ ?_ ?_
   rotate_left 2
   ·intro w' hg; have q := hg.cell c12 (fun h => h); go_simp; with_reducible rfl
   ·simp only [Act.put, pB, pC, pD]; rfl
   iterate 3
    refine ord_pure rfl rfl rfl rfl rfl (fun _ _ _ _ h => h) ?_ ?_ ?_ ?_ ?_
    rotate_left 2
    ·intro w'; go_simp; with_reducible rfl
    ·simp only [Act.put, pB, pC, pD]; rfl
   refine ord_read rfl rfl rfl rfl rfl (fun _ _ _ _ h => h) ?_ ?_ ?_ ?_ ?_
   rotate_left 2
   ·intro w' hg; have q := hg.cell c4 (fun h => h); go_simp; with_reducible rfl
   ·simp only [Act.put, pB, pC, pD]; rfl
   iterate 2
    refine ord_pure rfl rfl rfl rfl rfl (fun _ _ _ _ h => h) ?_ ?_ ?_ ?_ ?_
    rotate_left 2
    ·intro w'; go_simp; with_reducible rfl
    ·simp only [Act.put, pB, pC, pD]; rfl
   refine ord_call rfl rfl rfl rfl rfl Tryz.func82 rfl rfl [.slice p.Aa d.acked.length p.ca, .int .i64 ((pp : Int) + k)] rfl ?_
   have hpk : ((pp : Int) + k) = ((pp + k : Nat) : Int) := by push_cast; rfl
   rw [hpk]
   refine (bget_calls p.Aa p.ca d.acked HB.out (pp + k) (by omega) wr.drew HR.out).mono ?_
   rintro e w2 ⟨rfl, rfl⟩
   refine ⟨_, rfl, fun _ => Keep.refl _ _, ?_⟩
   simp only [Act.put, pB, pC, pD]
   refine ord_nil ?_
   have HH3 : Hid (Grow w wr.drew ∧ SAt g p d Fq G wr.drew ∧ wr.drew.heap[w.heap.size]? = some (.cells #[.int .i64 0, .int .u16 0, .int .i64 0, .int .i64 0] 48 (0, 0))) := LH ⟨HH.out.1.drew, HH.out.2.1.grow (Keep.refl NoB wr).drew, HH.out.2.2⟩
   generalize wr.drew = w3 at HH3 ⊢
   clear HH c0 c1 c2 c3 c4 c5 c6 c7 c8 c9 c10 c11 c12 c13 c14 cf HR
   rcases hb : getB d.acked (pp + k) with _ | _
   ·have hs : cntB d.acked pp (k + 1) = cntB d.acked pp k := by simp [cntB, hb]
    go_wp2
    go_roundw
    case rel => exact ⟨k + 1, by omega, by go_num, by rw [hs], HH3⟩
    case measure => simp [intOf]; omega
   ·have hs : cntB d.acked pp (k + 1) = cntB d.acked pp k + 1 := by simp [cntB, hb]
    go_wp2
    go_roundw
    case rel => exact ⟨k + 1, by omega, by go_num, by rw [hs]; go_num, HH3⟩
    case measure => simp [intOf]; omega
  ·obtain rfl : k = n := by omega
   have hlt' : ¬ ((k : Int) < k) := by omega
   go_wp2
   obtain ⟨z0, z1, z2, z3, zf⟩ := cells4 HH.out.2.2
   refine region_ord [0, 1, 2, 3, 4, 5, 6, 7, 8, 9, 10, 11, 12, 13, 14, 15] [15] [3, 7, 12] [15] rfl (by kernel_rfl) ?_
   iterate 3
    refine ord_pure rfl rfl rfl rfl rfl (fun _ _ _ _ h => h) ?_ ?_ ?_ ?_ ?_
    rotate_left 2
    ·intro w'; go_simp; with_reducible rfl
    ·simp only [Act.put, pB, pC, pD]; rfl
   refine ord_read rfl rfl rfl rfl rfl (fun _ _ _ _ h => h) ?_ ?_ ?_ ?_ ?_
   rotate_left 2
   ·intro w' hg; have q := hg.cell c10 (fun h => h); go_simp; with_reducible rfl
   ·simp only [Act.put, pB, pC, pD]; rfl
   iterate 3
    refine ord_pure rfl rfl rfl rfl rfl (fun _ _ _ _ h => h) ?_ ?_ ?_ ?_ ?_
    rotate_left 2
    ·intro w'; go_simp; with_reducible rfl
    ·simp only [Act.put, pB, pC, pD]; rfl
   refine ord_read rfl rfl rfl rfl rfl (fun _ _ _ _ h => h) ?_ ?_ ?_ ?_ ?_
   rotate_left 2
   ·intro w' hg; have q := hg.cell c11 (fun h => h); go_simp; with_reducible rfl
   ·simp only [Act.put, pB, pC, pD]; rfl
   iterate 4
    refine ord_pure rfl rfl rfl rfl rfl (fun _ _ _ _ h => h) ?_ ?_ ?_ ?_ ?_
    rotate_left 2
    ·intro w'; go_simp; with_reducible rfl
    ·simp only [Act.put, pB, pC, pD]; rfl
   refine ord_read rfl rfl rfl rfl rfl (fun _ _ _ _ h => h) ?_ ?_ ?_ ?_ ?_
   rotate_left 2
   ·intro w' hg; have q := hg.cell c5 (fun h => h); go_simp; with_reducible rfl
   ·simp only [Act.put, pB, pC, pD]; rfl
   iterate 2
    refine ord_pure rfl rfl rfl rfl rfl (fun _ _ _ _ h => h) ?_ ?_ ?_ ?_ ?_
    rotate_left 2
    ·intro w'; go_simp; with_reducible rfl
    ·simp only [Act.put, pB, pC, pD]; rfl
   refine ord_put rfl rfl rfl rfl ?_ ?_ (fun h => absurd (by simp) h) ?_
   rotate_left
   ·go_simp; with_reducible rfl
   refine ord_nil ?_
   have HS := LH (stored4 (.int .i64 d.phase) (.int .u16 d.err) (.int .i64 (cntB d.acked pp k : Nat)) (.int .i64 k) HH.out.1 (Nat.le_refl _) HH.out.2.2)
   obtain ⟨W2, hW2⟩ : ∃ W2, ((((wr.setCell ⟨w.heap.size, 0, none⟩ (.int .i64 d.phase)).setCell ⟨w.heap.size, 1, none⟩ (.int .u16 d.err)).setCell ⟨w.heap.size, 2, none⟩ (.int .i64 (cntB d.acked pp k : Nat))).setCell ⟨w.heap.size, 3, none⟩ (.int .i64 k)) = W2 := ⟨_, rfl⟩
   rw [hW2] at HS ⊢
   clear hW2 c0 c1 c2 c3 c4 c5 c6 c7 c8 c9 c10 c11 c12 c13 c14 cf z0 z1 z2 z3 zf
   obtain ⟨z0, z1, z2, z3, zf⟩ := cells4 HS.out.1
   go_wp2
   rw [HP.out]
   refine bodyPost_ret (v := .agg #[.int .i64 d.phase, .int .u16 d.err, .int .i64 (cntB d.acked pp k : Nat), .int .i64 k]) ?_ rfl ⟨by rw [HN.out], HS.out.2.drew⟩
   rw [results_cell1 rfl]; go_simp
theorem tick_no {g : Nat} {p : SP} {d : Snd} {Fq G : Nat → Prop} {w : World} (h : SAt g p d Fq G w) (hp : d.phase ≠ 1) (now : Int) :
    Calls Tryz.prog 19 #[.pointer (some ⟨g, 0, none⟩), .int .i64 now] w fun e w' => e = .returned (.slice none 0 0) ∧ w = w' := by
 obtain ⟨c0, c1, c2, c3, c4, c5, c6, c7, c8, c9, c10, c11, c12, c13, c14, cf⟩ := cells15 h.cell
 have hp1 : (d.phase == 1) = false := by simpa using hp
 clear h
 go_enter Tryz.func19, Tryz.ntmps19
 go_wp2
 go_ret
 exact ⟨rfl, rfl⟩
def setD (d : Snd) (key : Nat) (at_ : Int) : Snd := { d with tm := rSet d.tm key at_ }
theorem mem_rSet {l : List KT} {key at_ : Int} {x : KT} (h : x ∈ rSet l key at_) : x ∈ l ∨ x = (key, at_) := by
 unfold rSet at h
 split at h
 ·rcases mem_setL.1 h with h | h
  ·exact .inl h.1
  ·exact .inr h
 ·exact .inl h
theorem OkS.set {d : Snd} (h : OkS d) (key : Nat) (hk : key < d.tries.length) (at_ : Int) : OkS (setD d key at_) :=
 ⟨h.s0, h.s1, h.sum, h.fit, h.ch, h.chl, h.conf, h.phase, h.err, h.acked, h.alen, h.tlen, h.tr, fun x hx => by
  rcases mem_rSet hx with hx | rfl
  ·exact h.tm x hx
  ·show 0 ≤ (key : Int) ∧ (key : Int) < (d.tries.length : Nat)
   omega⟩
def Grew (Fq Fq' : Nat → Prop) (w : World) : Prop := ∀ k, Fq' k → Fq k ∨ w.heap.size ≤ k
theorem keep_sf {g rt : Nat} {Fq Fq' : Nat → Prop} {w w1 w2 : World} (h : Keep (SF g rt Fq) w w1) (hF : Grew Fq Fq' w) (k : Keep (SF g rt Fq') w1 w2) : Keep (SF g rt Fq) w w2 :=
 h.trans k (fun i hi => by
  rcases hi with e | e | e
  ·exact .inl (.inl e)
  ·exact .inl (.inr (.inl e))
  ·rcases hF i e with e | e
   ·exact .inl (.inr (.inr e))
   ·exact .inr e)
theorem Grew.trans {Fq Fq' Fq'' : Nat → Prop} {w w1 : World} (h : Grew Fq Fq' w) (k : Grew Fq' Fq'' w1) (hw : w.heap.size ≤ w1.heap.size) : Grew Fq Fq'' w := fun i hi => by
 rcases k i hi with e | e
 ·exact h i e
 ·exact .inr (Nat.le_trans hw e)
theorem Grew.refl (Fq : Nat → Prop) (w : World) : Grew Fq Fq w := fun _ h => .inl h
theorem SAt.queue {g : Nat} {p : SP} {d : Snd} {Fq G : Nat → Prop} {w w' : World} (h : SAt g p d Fq G w) {tm : List KT} {F2 : Nat → Prop} (hQ : Que p.q tm F2 w') (hK : Keep Fq w w') (hF : Grew Fq F2 w) (hok : OkS { d with tm := tm }) :
    ∃ Fq', SAt g p { d with tm := tm } Fq' G w' ∧ Keep (SF g p.rt Fq) w w' ∧ Grew Fq Fq' w := by
 obtain ⟨d1, d2, d3, d4, d5, d6⟩ := h.dis
 obtain ⟨F3, h1, h2, h3⟩ := hQ.tight
 have hF3 : Grew Fq F3 w := fun k hk => hF k (h2 k hk)
 refine ⟨F3, ⟨(hK.block g h.gq d2).trans h.cell, h1, own_keep h.tri hK (fun k hk => by cases hk; exact d3), h.ro.keep hK (fun k hk e => d6 k e hk), ⟨d1, fun e => ?_, fun e => ?_, d4, d5, fun k hk e => ?_⟩, h3, hok⟩, hK.mono (fun k e => .inr (.inr e)), hF3⟩
 ·rcases hF3 g e with e | e
  ·exact d2 e
  ·have := h.gq; omega
 ·rcases hF3 p.rt e with e | e
  ·exact d3 e
  ·have := h.rlt; omega
 ·rcases hF3 k hk with e2 | e2
  ·exact d6 k e2 e
  ·have := h.ro.lt e; omega
theorem sset_calls {g : Nat} {p : SP} {d : Snd} {Fq G : Nat → Prop} {w : World} (h : SAt g p d Fq G w) (key : Nat) (hk : key < d.tries.length) (at_ : Int) :
    Calls Tryz.prog 80 #[.pointer (some ⟨p.q, 0, none⟩), .int .i64 key, .int .i64 at_] w fun e w' => (∃ v, e = .returned v) ∧ ∃ Fq', SAt g p (setD d key at_) Fq' G w' ∧ Keep (SF g p.rt Fq) w w' ∧ Grew Fq Fq' w := by
 have hn := h.ok.n
 refine (tset_calls h.que key (okI_nat (by omega)) at_).mono ?_
 rintro e w' ⟨rfl, F2, hQ, hK, hF⟩
 exact ⟨⟨_, rfl⟩, h.queue hQ hK hF (h.ok.set key hk at_)⟩
def askD (now : Int) (frm : Nat) : Nat → Snd → Snd
 | 0, d => d
 | k + 1, d => if hasL (askD now frm k d).tm ((frm + k : Nat) : Int) = false ∧ getB d.acked (frm + k) = false then setD (askD now frm k d) (frm + k) now else askD now frm k d
theorem askD_st (now : Int) (frm : Nat) (d : Snd) : ∀ k, (askD now frm k d).session = d.session ∧ (askD now frm k d).sum = d.sum ∧ (askD now frm k d).acked = d.acked ∧ (askD now frm k d).ch = d.ch ∧ (askD now frm k d).sz = d.sz ∧ (askD now frm k d).phase = d.phase ∧ (askD now frm k d).err = d.err ∧ (askD now frm k d).tries = d.tries ∧ (askD now frm k d).win = d.win ∧ (askD now frm k d).back = d.back ∧ (askD now frm k d).retry = d.retry ∧ (askD now frm k d).quota = d.quota
 | 0 => ⟨rfl, rfl, rfl, rfl, rfl, rfl, rfl, rfl, rfl, rfl, rfl, rfl⟩
 | k + 1 => by
  unfold askD
  split
  ·exact askD_st now frm d k
  ·exact askD_st now frm d k
theorem ask_calls {g : Nat} {p : SP} {d : Snd} {Fq G : Nat → Prop} {w : World} (h : SAt g p d Fq G w) (frm n : Nat) (hk : frm + n ≤ d.tries.length) (now : Int) :
    Calls Tryz.prog 146 #[.pointer (some ⟨g, 0, none⟩), .int .i64 frm, .int .i64 (frm + n : Nat), .int .i64 now] w fun e w' => (∃ v, e = .returned v) ∧ ∃ Fq', SAt g p (askD now frm n d) Fq' G w' ∧ Keep (SF g p.rt Fq) w w' ∧ Grew Fq Fq' w := by
 have hn := h.ok.n
 have H := LH h
 clear h
 obtain ⟨to, hto⟩ : ∃ to, frm + n = to := ⟨_, rfl⟩
 rw [hto] at hk ⊢
 go_enter Tryz.func146, Tryz.ntmps146
 go_wp2
 go_loopw [8] (fun v wr => ∃ k : Nat, k ≤ n ∧ v = .int .i64 (frm + k : Nat) ∧ Hid (∃ Fq', SAt g p (askD now frm k d) Fq' G wr ∧ Keep (SF g p.rt Fq) w wr ∧ Grew Fq Fq' w)) (fun v _ => to - (intOf v).toNat)
 case atStart => exact ⟨0, by omega, by simp, Fq, H.out, Keep.refl _ _, Grew.refl _ _⟩
 case round =>
  clear H
  obtain ⟨k, hkn, rfl, HH⟩ := hrel
  obtain ⟨F1, hS, hK, hG⟩ := HH.out
  obtain ⟨c0, c1, c2, c3, c4, c5, c6, c7, c8, c9, c10, c11, c12, c13, c14, cf⟩ := cells15 hS.cell
  have hst := askD_st now frm d k
  by_cases hlt : k < n
  ·obtain ⟨key, hkey⟩ : ∃ key, frm + k = key := ⟨_, rfl⟩
   have hlt' : (key : Int) < to := by omega
   have hw : IntKind.i64.wrap ((key : Int) + 1) = (key : Int) + 1 := IntWalk.i64_in _ (by omega)
   rw [hst.2.2.1] at c12
   have HS := LH hS
   have HK := LH hK
   have HG := LH hG
   have HR : Hid (SliceR 1 (.slice p.Aa d.acked.length p.ca) d.acked.length (u8s d.acked) wr) := by
    have := hS.ro.now.2.2
    rw [hst.2.2.1] at this
    exact this
   have HB : Hid (OkB d.acked) := by
    have := hS.ok.acked
    rw [hst.2.2.1] at this
    exact this
   have HT : Hid ((askD now frm k d).tries.length = d.tries.length) := LH (by rw [hst.2.2.2.2.2.2.2.1])
   have Hkey := LH hkey
   rw [hkey]
   clear hS hK hG HH hst hkey
   rcases hb1 : hasL (askD now frm k d).tm (key : Int) with _ | _
   ·rcases hb2 : getB d.acked key with _ | _
    ·have Hyes : Hid (askD now frm (k + 1) d = setD (askD now frm k d) key now) := LH (by rw [askD, Hkey.out, if_pos ⟨hb1, hb2⟩])
     have Hb1 := LH hb1
     have Hb2 := LH hb2
     clear hb1 hb2
     go_wp2_with fail
     refine (tat_calls HS.out.que key (okI_nat (by omega))).mono ?_
     rintro e w2 ⟨rfl, rfl⟩
     rw [Hb1.out]
     go_wp2_with fail
     refine (bget_calls p.Aa p.ca d.acked HB.out key (by omega) wr HR.out).mono ?_
     rintro e w2 ⟨rfl, rfl⟩
     rw [Hb2.out]
     go_wp2_with fail
     refine (sset_calls HS.out key (by rw [HT.out]; omega) now).mono ?_
     rintro e w3 ⟨⟨v3, rfl⟩, F3, hS3, hK3, hG3⟩
     have HH3 : Hid (∃ Fq', SAt g p (askD now frm (k + 1) d) Fq' G w3 ∧ Keep (SF g p.rt Fq) w w3 ∧ Grew Fq Fq' w) := LH ⟨F3, by rw [Hyes.out]; exact hS3, keep_sf HK.out HG.out hK3, HG.out.trans hG3 HK.out.size⟩
     clear hS3 hK3 hG3
     go_wp2
     go_roundw
     case rel => exact ⟨k + 1, by omega, by rw [← Nat.add_assoc, Hkey.out]; go_num, HH3⟩
     case measure => simp [intOf]; omega
    ·have Hno : Hid (askD now frm (k + 1) d = askD now frm k d) := LH (by rw [askD, Hkey.out, if_neg (fun h => by rw [hb2] at h; simp at h)])
     have Hb1 := LH hb1
     have Hb2 := LH hb2
     clear hb1 hb2
     go_wp2_with fail
     refine (tat_calls HS.out.que key (okI_nat (by omega))).mono ?_
     rintro e w2 ⟨rfl, rfl⟩
     rw [Hb1.out]
     go_wp2_with fail
     refine (bget_calls p.Aa p.ca d.acked HB.out key (by omega) wr HR.out).mono ?_
     rintro e w2 ⟨rfl, rfl⟩
     rw [Hb2.out]
     go_wp2
     go_roundw
     case rel => exact ⟨k + 1, by omega, by rw [← Nat.add_assoc, Hkey.out]; go_num, F1, by rw [Hno.out]; exact HS.out, HK.out, HG.out⟩
     case measure => simp [intOf]; omega
   ·have Hno : Hid (askD now frm (k + 1) d = askD now frm k d) := LH (by rw [askD, Hkey.out, if_neg (fun h => by rw [hb1] at h; simp at h)])
    have Hb1 := LH hb1
    clear hb1
    go_wp2_with fail
    refine (tat_calls HS.out.que key (okI_nat (by omega))).mono ?_
    rintro e w2 ⟨rfl, rfl⟩
    rw [Hb1.out]
    go_wp2
    go_roundw
    case rel => exact ⟨k + 1, by omega, by rw [← Nat.add_assoc, Hkey.out]; go_num, F1, by rw [Hno.out]; exact HS.out, HK.out, HG.out⟩
    case measure => simp [intOf]; omega
  ·obtain rfl : k = n := by omega
   rw [hto]
   have hlt' : ¬ ((to : Int) < to) := by omega
   go_wp2
   go_end0
   exact ⟨⟨_, rfl⟩, HH.out⟩
def openD (now : Int) (d : Snd) : Snd :=
 if firstN d.acked d.tries.length < pagesN d.sz then askD now 0 (pagesN d.sz) d
 else if firstN d.acked d.tries.length < d.tries.length then askD now (firstN d.acked d.tries.length) (min (firstN d.acked d.tries.length + d.win.toNat) d.tries.length - firstN d.acked d.tries.length) (askD now 0 (pagesN d.sz) d)
 else if (askD now 0 (pagesN d.sz) d).tm.length = 0 then setD (askD now 0 (pagesN d.sz) d) (pagesN d.sz) now else askD now 0 (pagesN d.sz) d
theorem firstN_le (bs : List Int) (n : Nat) : firstN bs n ≤ n := by unfold firstN; omega
theorem open_calls {g : Nat} {p : SP} {d : Snd} {Fq G : Nat → Prop} {w : World} (h : SAt g p d Fq G w) (now : Int) :
    Calls Tryz.prog 74 #[.pointer (some ⟨g, 0, none⟩), .int .i64 now] w fun e w' => (∃ v, e = .returned v) ∧ ∃ Fq', SAt g p (openD now d) Fq' G w' ∧ Keep (SF g p.rt Fq) w w' ∧ Grew Fq Fq' w := by
 have hn := h.ok.n
 have htl := h.ok.tlen
 have hal := h.ok.alen
 have hc := h.ok.conf
 obtain ⟨c0, c1, c2, c3, c4, c5, c6, c7, c8, c9, c10, c11, c12, c13, c14, cf⟩ := cells15 h.cell
 have H := LH h
 clear h
 obtain ⟨pp, hpp⟩ : ∃ pp, pagesN d.sz = pp := ⟨_, rfl⟩
 obtain ⟨n, hn9⟩ : ∃ n, d.tries.length = n := ⟨_, rfl⟩
 rw [hpp] at c4 htl hn
 rw [hn9] at c13 htl hn hal
 have HPP := LH hpp
 have HN := LH hn9
 have hwin1 := hc.win1
 have hwin2 := hc.win2
 have hal2 : d.acked.length ≤ 100000 := by omega
 have hpn : pp < n := by omega
 clear hpp hn9 hc hal htl
 go_enter Tryz.func74, Tryz.ntmps74
 go_wp2_with fail
 have ha := ask_calls H.out 0 pp (by rw [HN.out]; omega) now
 rw [Nat.zero_add] at ha
 refine ha.mono ?_
 rintro e w1 ⟨⟨v1, rfl⟩, F1, hS, hK, hG⟩
 have hst := askD_st now 0 d pp
 obtain ⟨d1, hd1⟩ : ∃ d1, askD now 0 pp d = d1 := ⟨_, rfl⟩
 rw [hd1] at hS hst
 have HD1 := LH hd1
 clear c0 c1 c2 c3 c4 c5 c6 c7 c8 c9 c10 c11 c12 c13 c14 cf ha hd1
 obtain ⟨c0, c1, c2, c3, c4, c5, c6, c7, c8, c9, c10, c11, c12, c13, c14, cf⟩ := cells15 hS.cell
 rw [hst.2.2.1] at c12
 rw [hst.2.2.2.2.2.2.2.1, HN.out] at c13
 rw [hst.2.2.2.2.1, HPP.out] at c4
 rw [hst.2.2.2.2.2.2.2.2.1] at c6
 have HR : Hid (SliceR 1 (.slice p.Aa d.acked.length p.ca) d.acked.length (u8s d.acked) w1.drew) := by
  have := (hS.grow (Keep.refl NoB w1).drew).ro.now.2.2
  rw [hst.2.2.1] at this
  exact this
 have HB : Hid (OkB d.acked) := by
  have := hS.ok.acked
  rw [hst.2.2.1] at this
  exact this
 have hTL : d1.tries.length = n := by rw [hst.2.2.2.2.2.2.2.1, HN.out]
 have HS := LH (hS.grow (Keep.refl NoB w1).drew)
 have HK := LH (hK.grow (Keep.refl NoB w1).drew)
 have HG := LH hG
 have HST := LH hst
 have HTL := LH hTL
 clear hS hK hG hst hTL
 go_wp2
 refine region_ord [0, 1, 2, 3, 4, 5, 6, 7, 8, 10, 11, 12, 13, 14, 9, 15, 16] [9, 15, 16] [3, 7, 13] [] rfl (by kernel_rfl) ?_
 iterate 3
  refine ord_pure rfl rfl rfl rfl rfl (fun _ _ _ _ h => h) ?_ ?_ ?_ ?_ ?_
  rotate_left 2
  ·intro w'; go_simp; with_reducible rfl
  ·simp only [Act.put, pB, pC, pD]; rfl
 refine ord_read rfl rfl rfl rfl rfl (fun _ _ _ _ h => h) ?_ ?_ ?_ ?_ ?_
 rotate_left 2
 ·intro w' hg; have q := hg.cell c12 (fun h => h); go_simp; with_reducible rfl
 ·simp only [Act.put, pB, pC, pD]; rfl
 iterate 3
  refine ord_pure rfl rfl rfl rfl rfl (fun _ _ _ _ h => h) ?_ ?_ ?_ ?_ ?_
  rotate_left 2
  ·intro w'; go_simp; with_reducible rfl
  ·simp only [Act.put, pB, pC, pD]; rfl
 refine ord_read rfl rfl rfl rfl rfl (fun _ _ _ _ h => h) ?_ ?_ ?_ ?_ ?_
 rotate_left 2
 ·intro w' hg; have q := hg.cell c13 (fun h => h); go_simp; with_reducible rfl
 ·simp only [Act.put, pB, pC, pD]; rfl
 refine ord_pure rfl rfl rfl rfl rfl (fun _ _ _ _ h => h) ?_ ?_ ?_ ?_ ?_
 rotate_left 2
 ·intro w'; go_simp; with_reducible rfl
 ·simp only [Act.put, pB, pC, pD]; rfl
 iterate 3
  refine ord_pure rfl rfl rfl rfl rfl (fun _ _ _ _ h => h) ?_ ?_ ?_ ?_ ?_
  rotate_left 2
  ·intro w'; go_simp; with_reducible rfl
  ·simp only [Act.put, pB, pC, pD]; rfl
 refine ord_read rfl rfl rfl rfl rfl (fun _ _ _ _ h => h) ?_ ?_ ?_ ?_ ?_
 rotate_left 2
 ·intro w' hg; have q := hg.cell c13 (fun h => h); go_simp; with_reducible rfl
 ·simp only [Act.put, pB, pC, pD]; rfl
 refine ord_pure rfl rfl rfl rfl rfl (fun _ _ _ _ h => h) ?_ ?_ ?_ ?_ ?_
 rotate_left 2
 ·intro w'; go_simp; with_reducible rfl
 ·simp only [Act.put, pB, pC, pD]; rfl
 refine ord_call rfl rfl rfl rfl rfl Tryz.func147 rfl rfl [.slice p.Aa d.acked.length p.ca, .int .i64 n] rfl ?_
 refine (bfirst_calls p.Aa p.ca d.acked HB.out (by omega) n (by omega) (by omega) w1.drew HR.out).mono ?_
 rintro e w2 ⟨rfl, hg2⟩
 refine ⟨_, rfl, fun _ => hg2, ?_⟩
 simp only [Act.put, pB, pC, pD]
 iterate 2
  refine ord_set rfl rfl rfl rfl ?_ ?_ ?_ ?_ ?_
  rotate_left 2
  ·go_simp; with_reducible rfl
  ·simp only [Act.put, pB, pC, pD]; rfl
 refine ord_nil ?_
 replace HS := LH (HS.out.grow hg2)
 replace HK := LH (HK.out.grow hg2)
 have hbl := firstN_le d.acked n
 clear hg2 HR c0 c1 c2 c3 c4 c5 c6 c7 c8 c9 c10 c11 c12 c13 c14 cf
 obtain ⟨c0, c1, c2, c3, c4, c5, c6, c7, c8, c9, c10, c11, c12, c13, c14, cf⟩ := cells15 HS.out.cell
 rw [HST.out.2.2.2.2.1, HPP.out] at c4
 rw [HST.out.2.2.2.2.2.2.2.2.1] at c6
 obtain ⟨base, hbase⟩ : ∃ base, firstN d.acked n = base := ⟨_, rfl⟩
 rw [hbase] at hbl ⊢
 have HBA := LH hbase
 clear hbase
 by_cases h1 : base < pp
 ·have h1' : (base : Int) < pp := by omega
  have hfin : Hid (openD now d = d1) := LH (by unfold openD; rw [HN.out, HPP.out, HBA.out, if_pos h1, HD1.out])
  go_wp2
  go_end0
  exact ⟨⟨_, rfl⟩, F1, by rw [hfin.out]; exact HS.out, HK.out, HG.out⟩
 by_cases h2 : base < n
 ·have h1' : ¬ ((base : Int) < pp) := by omega
  have h2' : (base : Int) < n := by omega
  obtain ⟨m, hm⟩ : ∃ m, min (base + d.win.toNat) n - base = m := ⟨_, rfl⟩
  have hfin : Hid (openD now d = askD now base m d1) := LH (by unfold openD; rw [HN.out, HPP.out, HBA.out, if_neg h1, if_pos h2, HD1.out, hm])
  have hw : IntKind.i64.wrap ((base : Int) + d.win) = (base : Int) + d.win := IntWalk.i64_in _ (by omega)
  have hmn : base + m ≤ n := by omega
  have ha := ask_calls HS.out base m (by rw [HTL.out]; exact hmn) now
  by_cases hc : (n : Int) < base + d.win
  ·rw [show base + m = n from by omega] at ha
   have HA := LH ha
   clear hm ha
   go_wp2_with fail
   refine HA.out.mono ?_
   rintro e w3 ⟨⟨v3, rfl⟩, F3, hS3, hK3, hG3⟩
   have HF := LH (show ∃ Fq', SAt g p (openD now d) Fq' G w3 ∧ Keep (SF g p.rt Fq) w w3 ∧ Grew Fq Fq' w from ⟨F3, by rw [hfin.out]; exact hS3, keep_sf HK.out HG.out hK3, HG.out.trans hG3 HK.out.size⟩)
   clear hS3 hK3 hG3
   go_wp2
   go_end0
   exact ⟨⟨_, rfl⟩, HF.out⟩
  ·rw [show ((base + m : Nat) : Int) = (base : Int) + d.win from by omega] at ha
   have HA := LH ha
   clear hm ha
   go_wp2_with fail
   refine HA.out.mono ?_
   rintro e w3 ⟨⟨v3, rfl⟩, F3, hS3, hK3, hG3⟩
   have HF := LH (show ∃ Fq', SAt g p (openD now d) Fq' G w3 ∧ Keep (SF g p.rt Fq) w w3 ∧ Grew Fq Fq' w from ⟨F3, by rw [hfin.out]; exact hS3, keep_sf HK.out HG.out hK3, HG.out.trans hG3 HK.out.size⟩)
   clear hS3 hK3 hG3
   go_wp2
   go_end0
   exact ⟨⟨_, rfl⟩, HF.out⟩
 ·have h1' : ¬ ((base : Int) < pp) := by omega
  have h2' : ¬ ((base : Int) < n) := by omega
  by_cases h3 : d1.tm.length = 0
  ·have hfin : Hid (openD now d = setD d1 pp now) := LH (by unfold openD; rw [HN.out, HPP.out, HBA.out, if_neg h1, if_neg h2, HD1.out, if_pos h3])
   have ht : (((d1.tm.length : Nat) : Int) == 0) = true := by rw [h3]; rfl
   clear h3
   go_wp2_with fail
   refine (tlen_calls HS.out.que).mono ?_
   rintro e w3 ⟨rfl, rfl⟩
   go_wp2
   refine region_ord [0, 1, 2, 3, 4, 5, 6, 7, 8, 9] [9] [3, 7] [9] rfl (by kernel_rfl) ?_
   iterate 3
    refine ord_pure rfl rfl rfl rfl rfl (fun _ _ _ _ h => h) ?_ ?_ ?_ ?_ ?_
    rotate_left 2
    ·intro w'; go_simp; with_reducible rfl
    ·simp only [Act.put, pB, pC, pD]; rfl
   refine ord_read rfl rfl rfl rfl rfl (fun _ _ _ _ h => h) ?_ ?_ ?_ ?_ ?_
   rotate_left 2
   ·intro w' hg; have q := hg.cell c0 (fun h => h); go_simp; with_reducible rfl
   ·simp only [Act.put, pB, pC, pD]; rfl
   iterate 3
    refine ord_pure rfl rfl rfl rfl rfl (fun _ _ _ _ h => h) ?_ ?_ ?_ ?_ ?_
    rotate_left 2
    ·intro w'; go_simp; with_reducible rfl
    ·simp only [Act.put, pB, pC, pD]; rfl
   refine ord_read rfl rfl rfl rfl rfl (fun _ _ _ _ h => h) ?_ ?_ ?_ ?_ ?_
   rotate_left 2
   ·intro w' hg; have q := hg.cell c4 (fun h => h); go_simp; with_reducible rfl
   ·simp only [Act.put, pB, pC, pD]; rfl
   refine ord_pure rfl rfl rfl rfl rfl (fun _ _ _ _ h => h) ?_ ?_ ?_ ?_ ?_
   rotate_left 2
   ·intro w'; go_simp; with_reducible rfl
   ·simp only [Act.put, pB, pC, pD]; rfl
   refine ord_call rfl rfl rfl rfl rfl Tryz.func80 rfl rfl [.pointer (some ⟨p.q, 0, none⟩), .int .i64 pp, .int .i64 now] rfl ?_
   refine (sset_calls (HS.out.grow (Keep.refl NoB w2).drew) pp (by rw [HTL.out]; exact hpn) now).mono ?_
   rintro e w3 ⟨⟨v3, rfl⟩, F3, hS3, hK3, hG3⟩
   refine ⟨_, rfl, fun h => absurd (by simp) h, ?_⟩
   simp only [Act.put, pB, pC, pD]
   refine ord_nil ?_
   have HF := LH (show ∃ Fq', SAt g p (openD now d) Fq' G w3 ∧ Keep (SF g p.rt Fq) w w3 ∧ Grew Fq Fq' w from ⟨F3, by rw [hfin.out]; exact hS3, keep_sf HK.out.drew HG.out hK3, HG.out.trans hG3 HK.out.drew.size⟩)
   clear hS3 hK3 hG3 c0 c1 c2 c3 c4 c5 c6 c7 c8 c9 c10 c11 c12 c13 c14 cf
   go_wp2
   go_end0
   exact ⟨⟨_, rfl⟩, HF.out⟩
  ·have hfin : Hid (openD now d = d1) := LH (by unfold openD; rw [HN.out, HPP.out, HBA.out, if_neg h1, if_neg h2, HD1.out, if_neg h3])
   have ht : (((d1.tm.length : Nat) : Int) == 0) = false := by rw [beq_eq_false_iff_ne]; omega
   clear h3
   go_wp2_with fail
   refine (tlen_calls HS.out.que).mono ?_
   rintro e w3 ⟨rfl, rfl⟩
   go_wp2
   go_end0
   exact ⟨⟨_, rfl⟩, F1, by rw [hfin.out]; exact HS.out, HK.out, HG.out⟩
theorem put7_5 {w : World} {g T : Nat} {a0 a1 a2 a3 a4 a5 a6 : Value} (x y z : Value) (h : w.heap[g]? = some (.cells #[a0, a1, a2, a3, a4, a5, a6] T (0, 0))) :
    (((w.setCell ⟨g, 2, none⟩ x).setCell ⟨g, 3, none⟩ y).setCell ⟨g, 5, none⟩ z).heap[g]? = some (.cells #[a0, a1, x, y, a4, z, a6] T (0, 0)) := by
 simp only [World.setCell, Array.getElem?_modify]
 simp [h]
theorem put7_6 {w : World} {g T : Nat} {a0 a1 a2 a3 a4 a5 a6 : Value} (x y z : Value) (h : w.heap[g]? = some (.cells #[a0, a1, a2, a3, a4, a5, a6] T (0, 0))) :
    (((w.setCell ⟨g, 2, none⟩ x).setCell ⟨g, 3, none⟩ y).setCell ⟨g, 6, none⟩ z).heap[g]? = some (.cells #[a0, a1, x, y, a4, a5, z] T (0, 0)) := by
 simp only [World.setCell, Array.getElem?_modify]
 simp [h]
theorem keep_put (B o : Nat) (w : World) (v : Value) : Keep (fun k => k = B) w (w.setCell ⟨B, o, none⟩ v) := (Keep.refl (fun k => k = B) w).setCell (p := ⟨B, o, none⟩) (.inl rfl) v
theorem keep7 (w4 : World) (T : Nat) (v0 v1 v2 v3 v4 v5 v6 : Value) : Keep (fun k => k = T) w4 (((((((w4.setCell ⟨T, 0, none⟩ v0).setCell ⟨T, 1, none⟩ v1).setCell ⟨T, 2, none⟩ v2).setCell ⟨T, 3, none⟩ v3).setCell ⟨T, 4, none⟩ v4).setCell ⟨T, 5, none⟩ v5).setCell ⟨T, 6, none⟩ v6) :=
 (((((((Keep.refl (fun k => k = T) w4).setCell (p := ⟨T, 0, none⟩) (.inl rfl) v0).setCell (p := ⟨T, 1, none⟩) (.inl rfl) v1).setCell (p := ⟨T, 2, none⟩) (.inl rfl) v2).setCell (p := ⟨T, 3, none⟩) (.inl rfl) v3).setCell (p := ⟨T, 4, none⟩) (.inl rfl) v4).setCell (p := ⟨T, 5, none⟩) (.inl rfl) v5).setCell (p := ⟨T, 6, none⟩) (.inl rfl) v6
theorem Foot.cell_mem {P : World → Prop} {W : World} {F : Nat → Prop} (h : Foot P W F) {p : Addr} (hp : ∀ W', P W' → ∃ v, W'.cell? p = some v) : F p.block := by
 by_cases hF : F p.block
 ·exact hF
 ·exfalso
  obtain ⟨v, hv⟩ := hp { W with heap := W.heap.setIfInBounds p.block (.map #[] 0) } (h.2 _ (fun k hk => by
   have : p.block ≠ k := fun e => hF (e ▸ hk)
   simp [Array.getElem?_setIfInBounds, this]))
  unfold World.cell? at hv
  rw [Array.getElem?_setIfInBounds_self] at hv
  split at hv
  ·rename_i hq
   split at hq <;> simp at hq
  ·simp at hv
theorem of_page {g : Nat} {p : SP} {d : Snd} {Fq G : Nat → Prop} {w : World} (h : SAt g p d Fq G w) (key : Nat) (hk : key < pagesN d.sz) :
    Calls Tryz.prog 79 #[.pointer (some ⟨g, 0, none⟩), .int .i64 key] w fun e w' => ∃ A5 c5, e = .returned (.agg #[.int .i64 1, .int .u64 d.session, .int .i64 key, .int .i64 (pagesN d.sz : Nat), .int .u32 (d.sum : Nat), .slice A5 (pageP d.sz key).length c5, .slice none 0 0]) ∧ Grow w w' ∧ w'.ownsRow w.heap.size 3 1 (.slice A5 (pageP d.sz key).length c5) (pageP d.sz key).length (ints (pageP d.sz key)) := by
 have hn := h.ok.n
 have htl := h.ok.tlen
 have hfit := LH h.ok.fit
 have hchl := LH h.ok.chl
 have hd0 := (Keep.refl NoB w).alloc (.cells #[.int .i64 0, .int .u64 0, .int .i64 0, .int .i64 0, .int .u32 0, .slice none 0 0, .slice none 0 0] 46)
 have HC := LH (heap_alloc_new w (.cells #[.int .i64 0, .int .u64 0, .int .i64 0, .int .i64 0, .int .u32 0, .slice none 0 0, .slice none 0 0] 46))
 have HG := LH hd0
 have H := LH (h.grow hd0)
 have c4 := (cells15 H.out.cell).2.2.2.2.1
 have hw0 : (w.alloc (.cells #[.int .i64 0, .int .u64 0, .int .i64 0, .int .i64 0, .int .u32 0, .slice none 0 0, .slice none 0 0] 46)).heap.size = w.heap.size + 1 := by simp
 clear h hd0
 have hk' : (key : Int) < pagesN d.sz := by omega
 go_enter Tryz.func79, Tryz.ntmps79
 go_wp2_with fail
 refine (gram_calls H.out 1).mono ?_
 rintro e w1 ⟨rfl, hg⟩
 have hga := (Keep.refl NoB w1).alloc (.cells #[.int .i64 1, .int .u64 d.session, .int .i64 0, .int .i64 0, .int .u32 (d.sum : Nat), .slice none 0 0, .slice none 0 0] 46)
 have HB := LH (heap_alloc_new w1 (.cells #[.int .i64 1, .int .u64 d.session, .int .i64 0, .int .i64 0, .int .u32 (d.sum : Nat), .slice none 0 0, .slice none 0 0] 46))
 have hsz1 := hg.size
 have HGB : Hid (¬ g = w1.heap.size) := LH (fun e => by have := (H.out.grow hg).gq; omega)
 have HGG : Hid (∀ k, G k → ¬ k = w1.heap.size) := LH (fun k hk e => by have := (H.out.grow hg).ro.lt hk; omega)
 replace H := LH ((H.out.grow hg).grow hga)
 replace HC := LH (Grow.heap hga (Grow.heap hg HC.out))
 replace HG := LH ((HG.out.grow hg).grow hga)
 rw [hw0] at hsz1
 clear c4 hg hga hw0
 go_wp2
 obtain ⟨B, hBB⟩ : ∃ B, w1.heap.size = B := ⟨_, rfl⟩
 generalize w1.alloc (.cells #[.int .i64 1, .int .u64 d.session, .int .i64 0, .int .i64 0, .int .u32 (d.sum : Nat), .slice none 0 0, .slice none 0 0] 46) = w2 at H HC HG HB ⊢
 rw [hBB] at HB hsz1 HGB HGG ⊢
 clear hBB
 obtain ⟨c0, c1, c2, c3, c4, c5h, c6, c7, c8, c9, c10, c11, c12, c13, c14, cf⟩ := cells15 H.out.cell
 have HSZ := LH (H.out.grow (Keep.refl NoB w2).drew).ro.now.1
 refine region_ordS (fun k => k = B) [0, 1, 2, 3, 4, 5, 6, 7, 8, 9, 11, 10, 12, 13, 14, 15, 16] [10, 12, 14, 16] [4, 8] [] rfl (by kernel_rfl) ?_
 iterate 4
  refine ord_pure rfl rfl rfl rfl rfl (fun _ _ _ _ h => h) ?_ ?_ ?_ ?_ ?_
  rotate_left 2
  ·intro w'; go_simp; with_reducible rfl
  ·simp only [Act.put, pB, pC, pD]; rfl
 refine ord_read rfl rfl rfl rfl rfl (fun _ _ _ _ h => h) ?_ ?_ ?_ ?_ ?_
 rotate_left 2
 ·intro w' hg; have q := hg.cell c4 HGB.out; go_simp; with_reducible rfl
 ·simp only [Act.put, pB, pC, pD]; rfl
 iterate 3
  refine ord_pure rfl rfl rfl rfl rfl (fun _ _ _ _ h => h) ?_ ?_ ?_ ?_ ?_
  rotate_left 2
  ·intro w'; go_simp; with_reducible rfl
  ·simp only [Act.put, pB, pC, pD]; rfl
 refine ord_read rfl rfl rfl rfl rfl (fun _ _ _ _ h => h) ?_ ?_ ?_ ?_ ?_
 rotate_left 2
 ·intro w' hg; have q1 := hg.cell c1 HGB.out; have q2 := hg.cell c2 HGB.out; have q3 := hg.cell c3 HGB.out; go_simp; with_reducible rfl
 ·simp only [Act.put, pB, pC, pD]; rfl
 iterate 2
  refine ord_pure rfl rfl rfl rfl rfl (fun _ _ _ _ h => h) ?_ ?_ ?_ ?_ ?_
  rotate_left 2
  ·intro w'; go_simp; with_reducible rfl
  ·simp only [Act.put, pB, pC, pD]; rfl
 refine ord_call rfl rfl rfl rfl rfl Tryz.func150 rfl rfl [.agg #[.int .u64 d.session, .slice p.As d.sz.length p.cs, .int .u32 (d.sum : Nat)], .int .i64 key] rfl ?_
 refine (mpage_calls d.session d.sum p.As p.cs d.sz w2.drew HSZ.out hfit.out key hk).mono ?_
 rintro e w3 ⟨A5, c5, rfl, hg3, hob⟩
 refine ⟨_, rfl, fun _ => hg3.mono (fun _ h => h.elim), ?_⟩
 simp only [Act.put, pB, pC, pD]
 have hgd := (Keep.refl NoB w2).drew.grow hg3
 replace HG := LH (HG.out.grow hgd)
 replace HC := LH (Grow.heap hgd HC.out)
 have hBl := (gE HB.out).1
 replace HB := LH (Grow.heap hgd HB.out)
 have hcl := (gE HC.out).1
 have HNB : Hid (∀ k, (Value.slice A5 (pageP d.sz key).length c5).ownBlock = some k → ¬ k = B) := LH (fun k hk e => by have := (hob.lt k hk).1; have h7 : w2.drew.heap.size = w2.heap.size := rfl; omega)
 have HNS : Hid (∀ k, (Value.slice A5 (pageP d.sz key).length c5).ownBlock = some k → ¬ k = w.heap.size) := LH (fun k hk e => by have := (hob.lt k hk).1; have h7 : w2.drew.heap.size = w2.heap.size := rfl; omega)
 have HR := LH (own_le hob (show w.heap.size ≤ w2.drew.heap.size from by have h7 : w2.drew.heap.size = w2.heap.size := rfl; omega))
 clear hob hg3 hgd
 obtain ⟨z0, z1, z2, z3, z4, z5, z6, zf⟩ := cells7 HB.out
 refine ord_put rfl rfl rfl rfl ?_ ?_ ?_ ?_
 rotate_left
 ·go_simp; with_reducible rfl
 ·exact fun _ => keep_put _ _ _ _
 refine ord_pure rfl rfl rfl rfl rfl (fun _ _ _ _ h => h) ?_ ?_ ?_ ?_ ?_
 rotate_left 2
 ·intro w'; go_simp; with_reducible rfl
 ·simp only [Act.put, pB, pC, pD]; rfl
 refine ord_put rfl rfl rfl rfl ?_ ?_ ?_ ?_
 rotate_left
 ·go_simp; with_reducible rfl
 ·exact fun _ => keep_put _ _ _ _
 refine ord_pure rfl rfl rfl rfl rfl (fun _ _ _ _ h => h) ?_ ?_ ?_ ?_ ?_
 rotate_left 2
 ·intro w'; go_simp; with_reducible rfl
 ·simp only [Act.put, pB, pC, pD]; rfl
 refine ord_put rfl rfl rfl rfl ?_ ?_ ?_ ?_
 rotate_left
 ·go_simp; with_reducible rfl
 ·exact fun _ => keep_put _ _ _ _
 refine ord_nil ?_
 have HK := LH ((((Keep.refl (fun k => k = B) w3).setCell (p := ⟨B, 2, none⟩) (.inl rfl) (.int .i64 key)).setCell (p := ⟨B, 3, none⟩) (.inl rfl) (.int .i64 (pagesN d.sz : Nat))).setCell (p := ⟨B, 5, none⟩) (.inl rfl) (.slice A5 (pageP d.sz key).length c5))
 have hB7 := put7_5 (.int .i64 key) (.int .i64 (pagesN d.sz : Nat)) (.slice A5 (pageP d.sz key).length c5) HB.out
 replace HG := LH (HG.out.trans (HK.out.mono (fun k e => (e : k = B))) (fun i e => .inr (by rw [e]; omega)) : Keep NoB w _)
 replace HC := LH ((HK.out.block w.heap.size (gE HC.out).1 (by omega)).trans HC.out)
 replace HR := LH (own_keep HR.out HK.out HNB.out)
 clear HK c0 c1 c2 c3 c4 c5h c6 c7 c8 c9 c10 c11 c12 c13 c14 cf z0 z1 z2 z3 z4 z5 z6 zf HB
 generalize (((w3.setCell ⟨B, 2, none⟩ (.int .i64 key)).setCell ⟨B, 3, none⟩ (.int .i64 (pagesN d.sz : Nat))).setCell ⟨B, 5, none⟩ (.slice A5 (pageP d.sz key).length c5)) = w4 at HG HC HR hB7 ⊢
 obtain ⟨y0, y1, y2, y3, y4, y5, y6, yf⟩ := cells7 hB7
 obtain ⟨z0, z1, z2, z3, z4, z5, z6, zf⟩ := cells7 HC.out
 have HS := LH (stored7 (.int .i64 1) (.int .u64 d.session) (.int .i64 key) (.int .i64 (pagesN d.sz : Nat)) (.int .u32 (d.sum : Nat)) (.slice A5 (pageP d.sz key).length c5) (.slice none 0 0) HG.out (Nat.le_refl _) HC.out)
 have HRR := LH (own_keep HR.out (keep7 w4 w.heap.size (.int .i64 1) (.int .u64 d.session) (.int .i64 key) (.int .i64 (pagesN d.sz : Nat)) (.int .u32 (d.sum : Nat)) (.slice A5 (pageP d.sz key).length c5) (.slice none 0 0)) HNS.out)
 go_wp2
 obtain ⟨s0, s1, s2, s3, s4, s5, s6, sf⟩ := cells7 HS.out.1
 refine bodyPost_ret (v := .agg #[.int .i64 1, .int .u64 d.session, .int .i64 key, .int .i64 (pagesN d.sz : Nat), .int .u32 (d.sum : Nat), .slice A5 (pageP d.sz key).length c5, .slice none 0 0]) ?_ rfl ⟨A5, c5, rfl, HS.out.2, HRR.out⟩
 rw [results_cell1 rfl]; go_simp
theorem of_chunk {g : Nat} {p : SP} {d : Snd} {Fq G : Nat → Prop} {w : World} (h : SAt g p d Fq G w) (key : Nat) (i : Nat) (hk : key = pagesN d.sz + i) (hi : i < d.ch.length) :
    Calls Tryz.prog 79 #[.pointer (some ⟨g, 0, none⟩), .int .i64 key] w fun e w' => ∃ A5 c5x, e = .returned (.agg #[.int .i64 2, .int .u64 d.session, .int .i64 (i : Nat), .int .i64 d.ch.length, .int .u32 (d.sum : Nat), .slice none 0 0, .slice A5 (d.ch[i]).length c5x]) ∧ Grow w w' ∧ w'.ownsRow w.heap.size 5 1 (.slice A5 (d.ch[i]).length c5x) (d.ch[i]).length (u8s (d.ch[i])) := by
 have hn := h.ok.n
 have htl := h.ok.tlen
 have hfit := LH h.ok.fit
 have hchl := LH h.ok.chl
 have hd0 := (Keep.refl NoB w).alloc (.cells #[.int .i64 0, .int .u64 0, .int .i64 0, .int .i64 0, .int .u32 0, .slice none 0 0, .slice none 0 0] 46)
 have HC := LH (heap_alloc_new w (.cells #[.int .i64 0, .int .u64 0, .int .i64 0, .int .i64 0, .int .u32 0, .slice none 0 0, .slice none 0 0] 46))
 have HG := LH hd0
 have H := LH (h.grow hd0)
 have c4 := (cells15 H.out.cell).2.2.2.2.1
 have hw0 : (w.alloc (.cells #[.int .i64 0, .int .u64 0, .int .i64 0, .int .i64 0, .int .u32 0, .slice none 0 0, .slice none 0 0] 46)).heap.size = w.heap.size + 1 := by simp
 clear h hd0
 obtain ⟨pp, hpp⟩ : ∃ pp, pagesN d.sz = pp := ⟨_, rfl⟩
 have HPP := LH hpp
 have hk' : ¬ ((key : Int) < pp) := by omega
 have hwp : IntKind.i64.wrap ((key : Int) - pp) = (i : Nat) := by rw [IntWalk.i64_in _ (by omega)]; omega
 have hil : (i : Int) < d.ch.length := by omega
 rw [hpp] at c4
 clear hpp hk
 go_enter Tryz.func79, Tryz.ntmps79
 go_wp2_with fail
 refine (gram_calls H.out 2).mono ?_
 rintro e w1 ⟨rfl, hg⟩
 have hga := (Keep.refl NoB w1).alloc (.cells #[.int .i64 2, .int .u64 d.session, .int .i64 0, .int .i64 0, .int .u32 (d.sum : Nat), .slice none 0 0, .slice none 0 0] 46)
 have HB := LH (heap_alloc_new w1 (.cells #[.int .i64 2, .int .u64 d.session, .int .i64 0, .int .i64 0, .int .u32 (d.sum : Nat), .slice none 0 0, .slice none 0 0] 46))
 have hsz1 := hg.size
 have HGB : Hid (¬ g = w1.heap.size) := LH (fun e => by have := (H.out.grow hg).gq; omega)
 have HGG : Hid (∀ k, G k → ¬ k = w1.heap.size) := LH (fun k hk e => by have := (H.out.grow hg).ro.lt hk; omega)
 replace H := LH ((H.out.grow hg).grow hga)
 replace HC := LH (Grow.heap hga (Grow.heap hg HC.out))
 replace HG := LH ((HG.out.grow hg).grow hga)
 rw [hw0] at hsz1
 clear c4 hg hga hw0
 go_wp2
 obtain ⟨B, hBB⟩ : ∃ B, w1.heap.size = B := ⟨_, rfl⟩
 generalize w1.alloc (.cells #[.int .i64 2, .int .u64 d.session, .int .i64 0, .int .i64 0, .int .u32 (d.sum : Nat), .slice none 0 0, .slice none 0 0] 46) = w2 at H HC HG HB ⊢
 rw [hBB] at HB hsz1 HGB HGG ⊢
 clear hBB
 obtain ⟨c0, c1, c2, c3, c4, c5, c6, c7, c8, c9, c10, c11, c12, c13, c14, cf⟩ := cells15 H.out.cell
 rw [HPP.out] at c4
 have hmem : ∀ ad : Addr, p.Ac = some ad → G (ad.add i).block := fun ad had => by
  refine Foot.cell_mem (p := ad.add i) H.out.ro (fun W' hW' => ?_)
  obtain ⟨ad2, A2, c2, e2, h2, _⟩ := RowsR.at_ hW'.2.1 i hi
  rw [had] at e2
  injection e2 with e2
  subst e2
  exact ⟨_, h2⟩
 obtain ⟨ad, A', c', hAc, hcell, hrow⟩ := RowsR.at_ (H.out.grow (Keep.refl NoB w2).drew).ro.now.2.1 i hi
 have HAD : Hid (¬ (ad.add i).block = B) := LH (HGG.out _ (hmem ad hAc))
 rw [hAc] at c5
 clear hmem
 have hlen := (hchl.out _ (List.getElem_mem hi)).1
 have hi0 : (0 : Int) ≤ (i : Nat) := by omega
 have HROW := LH hrow
 have hil2 : ((i : Nat) : Int).toNat = i := Int.toNat_natCast i
 clear hrow hAc
 refine region_ordS (fun k => k = B) [0, 1, 2, 3, 4, 5, 6, 7, 8, 9, 10, 11, 12, 13, 14, 15, 16, 17, 18, 19, 20, 21, 22, 24, 23, 25, 26, 27, 28, 29] [23, 25, 27, 29] [4, 9, 14, 19, 22] [] rfl (by kernel_rfl) ?_
 iterate 4
  refine ord_pure rfl rfl rfl rfl rfl (fun _ _ _ _ h => h) ?_ ?_ ?_ ?_ ?_
  rotate_left 2
  ·intro w'; go_simp; with_reducible rfl
  ·simp only [Act.put, pB, pC, pD]; rfl
 refine ord_read rfl rfl rfl rfl rfl (fun _ _ _ _ h => h) ?_ ?_ ?_ ?_ ?_
 rotate_left 2
 ·intro w' hg; have q := hg.cell c4 HGB.out; go_simp; with_reducible rfl
 ·simp only [Act.put, pB, pC, pD]; rfl
 iterate 4
  refine ord_pure rfl rfl rfl rfl rfl (fun _ _ _ _ h => h) ?_ ?_ ?_ ?_ ?_
  rotate_left 2
  ·intro w'; go_simp; with_reducible rfl
  ·simp only [Act.put, pB, pC, pD]; rfl
 refine ord_read rfl rfl rfl rfl rfl (fun _ _ _ _ h => h) ?_ ?_ ?_ ?_ ?_
 rotate_left 2
 ·intro w' hg; have q := hg.cell c5 HGB.out; go_simp; with_reducible rfl
 ·simp only [Act.put, pB, pC, pD]; rfl
 iterate 4
  refine ord_pure rfl rfl rfl rfl rfl (fun _ _ _ _ h => h) ?_ ?_ ?_ ?_ ?_
  rotate_left 2
  ·intro w'; go_simp; with_reducible rfl
  ·simp only [Act.put, pB, pC, pD]; rfl
 refine ord_read rfl rfl rfl rfl rfl (fun _ _ _ _ h => h) ?_ ?_ ?_ ?_ ?_
 rotate_left 2
 ·intro w' hg; have q := hg.cell c5 HGB.out; go_simp; with_reducible rfl
 ·simp only [Act.put, pB, pC, pD]; rfl
 iterate 4
  refine ord_pure rfl rfl rfl rfl rfl (fun _ _ _ _ h => h) ?_ ?_ ?_ ?_ ?_
  rotate_left 2
  ·intro w'; go_simp; with_reducible rfl
  ·simp only [Act.put, pB, pC, pD]; rfl
 refine ord_read rfl rfl rfl rfl rfl (fun _ _ _ _ h => h) ?_ ?_ ?_ ?_ ?_
 rotate_left 2
 ·intro w' hg; have q := hg.cell c4 HGB.out; go_simp; with_reducible rfl
 ·simp only [Act.put, pB, pC, pD]; rfl
 iterate 2
  refine ord_pure rfl rfl rfl rfl rfl (fun _ _ _ _ h => h) ?_ ?_ ?_ ?_ ?_
  rotate_left 2
  ·intro w'; go_simp; with_reducible rfl
  ·simp only [Act.put, pB, pC, pD]; rfl
 refine ord_read rfl rfl rfl rfl rfl (fun _ _ _ _ h => h) ?_ ?_ ?_ ?_ ?_
 rotate_left 2
 ·intro w' hg; have q := hg.cell hcell HAD.out; go_simp; with_reducible rfl
 ·simp only [Act.put, pB, pC, pD]; rfl
 refine ord_pure rfl rfl rfl rfl rfl (fun _ _ _ _ h => h) ?_ ?_ ?_ ?_ ?_
 rotate_left 2
 ·intro w'; go_simp; with_reducible rfl
 ·simp only [Act.put, pB, pC, pD]; rfl
 refine ord_act rfl rfl (fun K hK => ?_)
 refine step_app _ rfl _ _ 23 23 rfl w2.heap.size 5 (.int .u8 0) 1 1 u_bytes info_u8 rfl (.slice none 0 0) 0 [] rfl (.slice A' (d.ch[i]).length c') (d.ch[i]).length (u8s d.ch[i]) rfl ?_ (by exact World.ownsRow_nil _ _ _ _) (HROW.out.src u_bytes (u8s_one _)) (by simp only [maxLen]; omega) (by omega) (Nat.le_refl _)
 intro v5 w3 hap
 have hob := hap.own
 simp only [Nat.zero_add, List.nil_append] at hob
 have hg3 : Grow w2.drew w3 := (Keep.refl NoB w2.drew).grown hap.grew (by simp [Value.ownBlock])
 obtain ⟨A5, c5x, rfl, _⟩ := own_slice hob
 refine hK _ _ ⟨fun _ => hg3.mono (fun _ h => h.elim), ?_⟩
 clear hK K hap
 simp only [Act.put, pB, pC, pD]
 have hgd := (Keep.refl NoB w2).drew.grow hg3
 replace HG := LH (HG.out.grow hgd)
 replace HC := LH (Grow.heap hgd HC.out)
 have hBl := (gE HB.out).1
 replace HB := LH (Grow.heap hgd HB.out)
 have hcl := (gE HC.out).1
 have HNB : Hid (∀ k, (Value.slice A5 (d.ch[i]).length c5x).ownBlock = some k → ¬ k = B) := LH (fun k hk e => by have := (hob.lt k hk).1; omega)
 have HNS : Hid (∀ k, (Value.slice A5 (d.ch[i]).length c5x).ownBlock = some k → ¬ k = w.heap.size) := LH (fun k hk e => by have := (hob.lt k hk).1; omega)
 have HR := LH (own_le hob (show w.heap.size ≤ w2.heap.size from by omega))
 clear hob hg3 hgd
 obtain ⟨z0, z1, z2, z3, z4, z5, z6, zf⟩ := cells7 HB.out
 refine ord_put rfl rfl rfl rfl ?_ ?_ ?_ ?_
 rotate_left
 ·go_simp; with_reducible rfl
 ·exact fun _ => keep_put _ _ _ _
 refine ord_pure rfl rfl rfl rfl rfl (fun _ _ _ _ h => h) ?_ ?_ ?_ ?_ ?_
 rotate_left 2
 ·intro w'; go_simp; with_reducible rfl
 ·simp only [Act.put, pB, pC, pD]; rfl
 refine ord_put rfl rfl rfl rfl ?_ ?_ ?_ ?_
 rotate_left
 ·go_simp; with_reducible rfl
 ·exact fun _ => keep_put _ _ _ _
 refine ord_pure rfl rfl rfl rfl rfl (fun _ _ _ _ h => h) ?_ ?_ ?_ ?_ ?_
 rotate_left 2
 ·intro w'; go_simp; with_reducible rfl
 ·simp only [Act.put, pB, pC, pD]; rfl
 refine ord_put rfl rfl rfl rfl ?_ ?_ ?_ ?_
 rotate_left
 ·go_simp; with_reducible rfl
 ·exact fun _ => keep_put _ _ _ _
 refine ord_nil ?_
 have HK := LH ((((Keep.refl (fun k => k = B) w3).setCell (p := ⟨B, 2, none⟩) (.inl rfl) (.int .i64 (i : Nat))).setCell (p := ⟨B, 3, none⟩) (.inl rfl) (.int .i64 d.ch.length)).setCell (p := ⟨B, 6, none⟩) (.inl rfl) (.slice A5 (d.ch[i]).length c5x))
 have hB7 := put7_6 (.int .i64 (i : Nat)) (.int .i64 d.ch.length) (.slice A5 (d.ch[i]).length c5x) HB.out
 replace HG := LH (HG.out.trans (HK.out.mono (fun k e => (e : k = B))) (fun i e => .inr (by rw [e]; omega)) : Keep NoB w _)
 replace HC := LH ((HK.out.block w.heap.size (gE HC.out).1 (by omega)).trans HC.out)
 replace HR := LH (own_keep HR.out HK.out HNB.out)
 clear HK c0 c1 c2 c3 c4 c5 c6 c7 c8 c9 c10 c11 c12 c13 c14 cf z0 z1 z2 z3 z4 z5 z6 zf HB
 generalize (((w3.setCell ⟨B, 2, none⟩ (.int .i64 (i : Nat))).setCell ⟨B, 3, none⟩ (.int .i64 d.ch.length)).setCell ⟨B, 6, none⟩ (.slice A5 (d.ch[i]).length c5x)) = w4 at HG HC HR hB7 ⊢
 obtain ⟨y0, y1, y2, y3, y4, y5, y6, yf⟩ := cells7 hB7
 obtain ⟨z0, z1, z2, z3, z4, z5, z6, zf⟩ := cells7 HC.out
 have HS := LH (stored7 (.int .i64 2) (.int .u64 d.session) (.int .i64 (i : Nat)) (.int .i64 d.ch.length) (.int .u32 (d.sum : Nat)) (.slice none 0 0) (.slice A5 (d.ch[i]).length c5x) HG.out (Nat.le_refl _) HC.out)
 have HRR := LH (own_keep HR.out (keep7 w4 w.heap.size (.int .i64 2) (.int .u64 d.session) (.int .i64 (i : Nat)) (.int .i64 d.ch.length) (.int .u32 (d.sum : Nat)) (.slice none 0 0) (.slice A5 (d.ch[i]).length c5x)) HNS.out)
 go_wp2
 obtain ⟨s0, s1, s2, s3, s4, s5, s6, sf⟩ := cells7 HS.out.1
 refine bodyPost_ret (v := .agg #[.int .i64 2, .int .u64 d.session, .int .i64 (i : Nat), .int .i64 d.ch.length, .int .u32 (d.sum : Nat), .slice none 0 0, .slice A5 (d.ch[i]).length c5x]) ?_ rfl ⟨A5, c5x, rfl, HS.out.2, HRR.out⟩
 rw [results_cell1 rfl]; go_simp
theorem info_apigram : (Tryz.prog.info? 46).map (fun i => (i.zero, i.size, i.bytes)) = some (some (.agg #[.int .i64 0, .int .u64 0, .int .i64 0, .int .i64 0, .int .u32 0, .slice none 0 0, .slice none 0 0]), 7, 88) := by kernel_rfl
theorem u_apigrams : Tryz.prog.underlying 43 = some (.slice 46) := by kernel_rfl
structure Gm where
 kind : Int
 session : Int
 index : Int
 of : Int
 sum : Nat
 sizes : List Int
 body : List Int
def Gm.cs (x : Gm) (v1 v2 : Value) : List Value := [.int .i64 x.kind, .int .u64 x.session, .int .i64 x.index, .int .i64 x.of, .int .u32 (x.sum : Nat), v1, v2]
abbrev GRow := Gm × Value × Value
def gcells (rows : List GRow) : List Value := rows.flatMap (fun r => r.1.cs r.2.1 r.2.2)
def GmR (r : GRow) (w : World) : Prop := SliceR 1 r.2.1 r.1.sizes.length (ints r.1.sizes) w ∧ SliceR 1 r.2.2 r.1.body.length (u8s r.1.body) w
structure GOut (base : Nat) (rows : List GRow) (v : Value) (Gr : Nat → Prop) (w : World) : Prop where
 own : w.ownsRow base 46 7 v rows.length (gcells rows)
 ro : Foot (fun w => ∀ r, r ∈ rows → GmR r w) w Gr
 ge : ∀ k, Gr k → base ≤ k
 dis : ∀ k, v.ownBlock = some k → ¬ Gr k
theorem GOut.nil (base : Nat) (w : World) : GOut base [] (.slice none 0 0) NoB w :=
 ⟨World.ownsRow_nil _ _ _ _, ⟨fun _ h => h.elim, fun _ _ r hr => by cases hr⟩, fun _ h => h.elim, fun _ _ h => h⟩
theorem GOut.keep {base : Nat} {rows : List GRow} {v : Value} {Gr S : Nat → Prop} {w w' : World} (h : GOut base rows v Gr w) (hk : Keep S w w') (h1 : ∀ k, v.ownBlock = some k → ¬ S k) (h2 : ∀ k, Gr k → ¬ S k) : GOut base rows v Gr w' :=
 ⟨own_keep h.own hk h1, h.ro.keep hk h2, h.ge, h.dis⟩
theorem GOut.grow {base : Nat} {rows : List GRow} {v : Value} {Gr : Nat → Prop} {w w' : World} (h : GOut base rows v Gr w) (hk : Grow w w') : GOut base rows v Gr w' := h.keep hk (fun _ _ h => h) (fun _ _ h => h)
theorem GOut.lt {base : Nat} {rows : List GRow} {v : Value} {Gr : Nat → Prop} {w : World} (h : GOut base rows v Gr w) : ∀ k, (v.ownBlock = some k ∨ Gr k) → k < w.heap.size := fun k hk => by
 rcases hk with hk | hk
 ·exact (h.own.lt k hk).2
 ·exact h.ro.lt hk
theorem GOut.push {base O : Nat} {rows : List GRow} {v v' : Value} {Gr Fx : Nat → Prop} {w w' : World} {x : GRow} (h : GOut base rows v Gr w) (hx : Foot (GmR x) w Fx) (hxb : ∀ k, Fx k → base ≤ k) (hO : ¬ Gr O) (hOx : ¬ Fx O) (hvx : ∀ k, v.ownBlock = some k → ¬ Fx k)
    (hk : Keep (fun k => k = O ∨ v.ownBlock = some k) w w') (hown : w'.ownsRow base 46 7 v' (rows.length + 1) (gcells rows ++ x.1.cs x.2.1 x.2.2)) (hat : ∀ k, v'.ownBlock = some k → v.ownBlock = some k ∨ w.heap.size ≤ k) :
    GOut base (rows ++ [x]) v' (fun k => Gr k ∨ Fx k) w' := by
 have hd : ∀ k, (Gr k ∨ Fx k) → ¬ (k = O ∨ v.ownBlock = some k) := fun k hk h2 => by
  rcases hk with hk | hk <;> rcases h2 with h2 | h2
  ·exact hO (h2 ▸ hk)
  ·exact h.dis k h2 hk
  ·exact hOx (h2 ▸ hk)
  ·exact hvx k h2 hk
 refine ⟨?_, ?_, fun k hk => hk.elim (h.ge k) (hxb k), fun k hk h2 => ?_⟩
 ·rw [List.length_append]
  have : gcells (rows ++ [x]) = gcells rows ++ x.1.cs x.2.1 x.2.2 := by simp [gcells]
  rw [this]
  exact hown
 ·exact ((h.ro.and hx).imp (fun W hW r hr => by
    rcases List.mem_append.1 hr with hr | hr
    ·exact hW.1 r hr
    ·rw [List.mem_singleton.1 hr]; exact hW.2)).keep hk hd
 ·rcases hat k hk with e | e
  ·rcases h2 with h2 | h2
   ·exact h.dis k e h2
   ·exact hvx k e h2
  ·rcases h2 with h2 | h2
   ·have := h.ro.lt h2; omega
   ·have := hx.lt h2; omega
theorem put_gram {O base n : Nat} {v : Value} {cells : List Value} {w : World} (hO : w.heap[O]? = some (.cells #[v] 43 (0, 0))) (hv : w.ownsRow base 46 7 v n cells) (hne : v.ownBlock ≠ some O) (hn : n ≤ 1000000) (hb : base ≤ w.heap.size) (x : Gm) (A1 A2 : Option Addr) (n1 k1 n2 k2 : Nat) :
    Calls Tryz.prog 75 #[.agg #[.int .i64 x.kind, .int .u64 x.session, .int .i64 x.index, .int .i64 x.of, .int .u32 (x.sum : Nat), (.slice A1 n1 k1), (.slice A2 n2 k2)], .pointer (some ⟨O, 0, none⟩)] w fun e w' => (∃ v, e = .returned v) ∧
     ∃ v', w'.heap[O]? = some (.cells #[v'] 43 (0, 0)) ∧ w'.ownsRow base 46 7 v' (n + 1) (cells ++ x.cs (.slice A1 n1 k1) (.slice A2 n2 k2)) ∧ Keep (fun k => k = O ∨ v.ownBlock = some k) w w' ∧ (∀ k, v'.ownBlock = some k → v.ownBlock = some k ∨ w.heap.size ≤ k) ∧ v'.ownBlock ≠ some O := by
 have hOl := (gE hO).1
 have hg1 := (Keep.refl NoB w).alloc (.cells #[.int .i64 x.kind, .int .u64 x.session, .int .i64 x.index, .int .i64 x.of, .int .u32 (x.sum : Nat), (.slice A1 n1 k1), (.slice A2 n2 k2)] 46)
 have HO := LH (Grow.heap hg1 hO)
 have HC := LH (heap_alloc_new w (.cells #[.int .i64 x.kind, .int .u64 x.session, .int .i64 x.index, .int .i64 x.of, .int .u32 (x.sum : Nat), (.slice A1 n1 k1), (.slice A2 n2 k2)] 46))
 have HV := LH (own_keep hv hg1 (fun _ _ h => h))
 have HNE := LH hne
 have HG := LH hg1
 have H12 : Hid (∀ u ∈ x.cs (.slice A1 n1 k1) (.slice A2 n2 k2), u.oneCell' = true) := LH (by simp [Gm.cs, Value.oneCell'])
 have hsz : (w.alloc (.cells #[.int .i64 x.kind, .int .u64 x.session, .int .i64 x.index, .int .i64 x.of, .int .u32 (x.sum : Nat), (.slice A1 n1 k1), (.slice A2 n2 k2)] 46)).heap.size = w.heap.size + 1 := by simp
 clear hg1 hO hv hne
 go_enter Tryz.func75, Tryz.ntmps75
 have ho := cell0 HO.out
 have hof := frozen0 0 HO.out
 obtain ⟨z0, z1, z2, z3, z4, z5, z6, zf⟩ := cells7 HC.out
 go_wp2_with (at_builtin; refine wpList_app _ rfl _ _ 43 43 rfl base 46 (.agg #[.int .i64 0, .int .u64 0, .int .i64 0, .int .i64 0, .int .u32 0, .slice none 0 0, .slice none 0 0]) 7 88 u_apigrams info_apigram rfl v n cells rfl (.slice (some ⟨w.heap.size + 1, 0, none⟩) 1 1) 1 (x.cs (.slice A1 n1 k1) (.slice A2 n2 k2)) rfl ?_ ?c0 ?c1 ?c2 ?c3 ?c4; intro v' w2 hap; refine Hid.out ?_)
 case c0 => exact own_keep HV.out ((Keep.refl NoB _).alloc _) (fun _ _ h => h)
 case c1 => exact Src.ofSlice _ u_apigrams ⟨w.heap.size + 1, 0, none⟩ 1 1 _ rfl (World.news_of_block (cs := #[.int .i64 x.kind, .int .u64 x.session, .int .i64 x.index, .int .i64 x.of, .int .u32 (x.sum : Nat), (.slice A1 n1 k1), (.slice A2 n2 k2)]) (t := 46) (fr := (0, 0)) (by rw [← hsz]; exact heap_alloc_new _ _)) H12.out
 case c2 => simp only [maxLen]; omega
 case c3 => omega
 case c4 => simp; omega
 refine LH ?_
 obtain ⟨A', c', rfl, _⟩ := own_slice hap.own
 have hk2 : Keep (fun k => v.ownBlock = some k) w w2 := ((HG.out.alloc _).mono (fun _ h => h.elim)).grown hap.grew (fun k hk => .inl hk)
 have hO2 : w2.heap[O]? = some (.cells #[v] 43 (0, 0)) := (((Keep.refl (fun k => v.ownBlock = some k) (w.alloc (.cells #[.int .i64 x.kind, .int .u64 x.session, .int .i64 x.index, .int .i64 x.of, .int .u32 (x.sum : Nat), (.slice A1 n1 k1), (.slice A2 n2 k2)] 46))).alloc _).grown hap.grew (fun k hk => .inl hk)).block O (by omega) HNE.out |>.trans HO.out
 have hat : ∀ k, (Value.slice A' (n + 1) c').ownBlock = some k → v.ownBlock = some k ∨ w.heap.size ≤ k := fun k hk => by
  rcases of_append hap k hk with e | e
  ·exact .inl e
  ·right; rw [e]; simp; omega
 have hno : (Value.slice A' (n + 1) c').ownBlock ≠ some O := fun e => by
  rcases hat O e with h | h
  ·exact HNE.out h
  ·omega
 have hown := own_keep hap.own ((Keep.refl (fun k => k = O) w2).setCell (p := ⟨O, 0, none⟩) (.inl rfl) (.slice A' (n + 1) c')) (fun k hk e => hno (e ▸ hk))
 have HR : Hid ((w2.setCell ⟨O, 0, none⟩ (.slice A' (n + 1) c')).heap[O]? = some (.cells #[.slice A' (n + 1) c'] 43 (0, 0)) ∧ (w2.setCell ⟨O, 0, none⟩ (.slice A' (n + 1) c')).ownsRow base 46 7 (.slice A' (n + 1) c') (n + 1) (cells ++ x.cs (.slice A1 n1 k1) (.slice A2 n2 k2)) ∧ Keep (fun k => k = O ∨ v.ownBlock = some k) w (w2.setCell ⟨O, 0, none⟩ (.slice A' (n + 1) c')) ∧ (∀ k, (Value.slice A' (n + 1) c').ownBlock = some k → v.ownBlock = some k ∨ w.heap.size ≤ k) ∧ (Value.slice A' (n + 1) c').ownBlock ≠ some O) :=
  LH ⟨heap_setCell_same (.slice A' (n + 1) c') hO2, hown, (hk2.mono (fun k hk => .inr hk)).setCell (p := ⟨O, 0, none⟩) (.inl (.inl rfl)) (.slice A' (n + 1) c'), hat, hno⟩
 have hof2 := frozen0 0 hO2
 have ho2 := cell0 hO2
 clear hk2 hO2 hat hno hown hap
 go_wp2
 go_end0
 exact ⟨⟨_, rfl⟩, _, HR.out⟩
end Go.Proofs.YtfkcpaahdlkcdaaGreat

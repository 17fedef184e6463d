import Derived.Test.YtfkcpaahdlkcdaaGreatRSendRetries19
import Derived.Laws.ResultCell
set_option linter.unusedSimpArgs false
set_option linter.unusedVariables false
set_option maxRecDepth 100000
set_option maxHeartbeats 16000000
namespace Go.Proofs.YtfkcpaahdlkcdaaGreat
open Go.RowKit
def QNPost (A : Option Addr) (n c : Nat) (r : Tr × Int × Int) (w : World) (e : Ending) (w' : World) : Prop :=
 ∃ (paid k s : Int) (A1 A2 A3 : Option Addr) (n1 c1 n2 c2 n3 c3 : Nat), e = .returned (.tuple #[.agg #[.slice A n c, .bool false, .slice none 0 0, .int .i64 paid, .int .i64 r.2.1], .agg #[.int .i64 k, .int .i64 s, .slice A1 n1 c1, .slice A2 n2 c2, .slice A3 n3 c3]]) ∧ Grow w w' ∧
  (r.2.1 = 0 → paid = r.2.2 ∧ k = r.1.kind ∧ s = r.1.size ∧ n1 = r.1.ws.length ∧ n2 = r.1.bs.length ∧ n3 = r.1.kids.length ∧ TrB r.1 ∧ Foot (fun u => TrR u r.1 (.slice A1 n1 c1) (.slice A2 n2 c2) (.slice A3 n3 c3)) w' (fun j => w.heap.size ≤ j ∧ j < w'.heap.size))
structure QD (w : World) (A : Option Addr) (n ca : Nat) (paid er : Int) (O N : Nat) (o : Ob) (vw vb vk : Value) (c : World) : Prop where
 d4 : c.heap[w.heap.size]? = some (.cells #[.slice A n ca, .bool false, .slice none 0 0, .int .i64 paid, .int .i64 er] 216 (0, 0))
 d8 : c.heap[w.heap.size + 1]? = some (.cells #[.slice none 0 0, .bool false, .slice none 0 0, .int .i64 0, .int .i64 0] 216 (0, 0))
 d9 : c.heap[w.heap.size + 2]? = some (.cells #[.int .i64 0, .int .i64 0, .slice none 0 0, .slice none 0 0, .slice none 0 0] 114 (0, 0))
 ob : c.heap[O]? = some (.cells #[.int .i64 o.kind, .int .i64 o.seg, .int .i64 o.at_, .int .i64 o.data, .int .i64 o.ptrs, .int .i64 o.size, .int .i64 o.count] 257 (0, 0))
 nd : c.heap[N]? = some (.cells #[.int .i64 o.kind, .int .i64 o.size, vw, vb, vk] 114 (0, 0))
 grow : Grow w c
 lo : w.heap.size + 2 < O ∧ O < N
namespace QD
variable {w : World} {A : Option Addr} {n ca : Nat} {paid er : Int} {O N : Nat} {o : Ob} {vw vb vk : Value} {c c' : World}
theorem big (h : QD w A n ca paid er O N o vw vb vk c) : N < c.heap.size := (gE h.nd).1
theorem keep (h : QD w A n ca paid er O N o vw vb vk c) (hk : Keep (fun j => N < j) c c') : QD w A n ca paid er O N o vw vb vk c' := by
 have hb := h.big
 obtain ⟨l1, l2⟩ := h.lo
 exact ⟨(hk.block _ (by omega) (by omega)).trans h.d4, (hk.block _ (by omega) (by omega)).trans h.d8, (hk.block _ (by omega) (by omega)).trans h.d9, (hk.block _ (by omega) (by omega)).trans h.ob, (hk.block _ hb (by omega)).trans h.nd,
  ((h.grow.mono (T := fun j => w.heap.size ≤ j) (fun _ h => h.elim)).trans hk (fun j hj => .inl (by omega))).new (fun j hj => hj), h.lo⟩
theorem later (h : QD w A n ca paid er O N o vw vb vk c) (hg : Grow c c') : QD w A n ca paid er O N o vw vb vk c' := h.keep (hg.mono (fun _ h => h.elim))
theorem atN (h : QD w A n ca paid er O N o vw vb vk c) (i : Nat) (u x2 x3 x4 : Value) (hs : (c.setCell ⟨N, i, none⟩ u).heap[N]? = some (.cells #[.int .i64 o.kind, .int .i64 o.size, x2, x3, x4] 114 (0, 0))) : QD w A n ca paid er O N o x2 x3 x4 (c.setCell ⟨N, i, none⟩ u) := by
 have hb := h.big
 obtain ⟨l1, l2⟩ := h.lo
 have hk : Keep (fun j => j = N) c (c.setCell ⟨N, i, none⟩ u) := (Keep.refl (fun j => j = N) c).setCell (p := ⟨N, i, none⟩) (.inl rfl) _
 exact ⟨(hk.block _ (by omega) (by omega)).trans h.d4, (hk.block _ (by omega) (by omega)).trans h.d8, (hk.block _ (by omega) (by omega)).trans h.d9, (hk.block _ (by omega) (by omega)).trans h.ob, hs,
  ((h.grow.mono (T := fun j => w.heap.size ≤ j) (fun _ h => h.elim)).trans hk (fun j hj => .inl (by omega))).new (fun j hj => hj), h.lo⟩
theorem put2 (h : QD w A n ca paid er O N o vw vb vk c) (u : Value) : QD w A n ca paid er O N o u vb vk (c.setCell ⟨N, 2, none⟩ u) := h.atN 2 u u vb vk (by simp only [World.setCell, Array.getElem?_modify]; simp [h.nd])
theorem put3 (h : QD w A n ca paid er O N o vw vb vk c) (u : Value) : QD w A n ca paid er O N o vw u vk (c.setCell ⟨N, 3, none⟩ u) := h.atN 3 u vw u vk (by simp only [World.setCell, Array.getElem?_modify]; simp [h.nd])
theorem put4 (h : QD w A n ca paid er O N o vw vb vk c) (u : Value) : QD w A n ca paid er O N o vw vb u (c.setCell ⟨N, 4, none⟩ u) := h.atN 4 u vw vb u (by simp only [World.setCell, Array.getElem?_modify]; simp [h.nd])
theorem putD (h : QD w A n ca paid er O N o vw vb vk c) (p2 e2 : Int) : QD w A n ca p2 e2 O N o vw vb vk (((((c.setCell ⟨w.heap.size, 0, none⟩ (.slice A n ca)).setCell ⟨w.heap.size, 1, none⟩ (.bool false)).setCell ⟨w.heap.size, 2, none⟩ (.slice none 0 0)).setCell ⟨w.heap.size, 3, none⟩ (.int .i64 p2)).setCell ⟨w.heap.size, 4, none⟩ (.int .i64 e2)) := by
 have hb := h.big
 obtain ⟨l1, l2⟩ := h.lo
 have hk := keepN5 (c := c) (N := w.heap.size) (.slice A n ca) (.bool false) (.slice none 0 0) (.int .i64 p2) (.int .i64 e2)
 have hst := stored5 (w0 := w) (.slice A n ca) (.bool false) (.slice none 0 0) (.int .i64 p2) (.int .i64 e2) h.grow (Nat.le_refl _) h.d4
 exact ⟨hst.1, (hk.block _ (by omega) (by omega)).trans h.d8, (hk.block _ (by omega) (by omega)).trans h.d9, (hk.block _ (by omega) (by omega)).trans h.ob, (hk.block _ hb (by omega)).trans h.nd, hst.2, h.lo⟩
end QD
def FQ (N : Nat) (v : Value) (c : World) : Nat → Prop := fun j => N < j ∧ j < c.heap.size ∧ v.ownBlock ≠ some j
structure QK (w : World) (A : Option Addr) (n ca : Nat) (paid er : Int) (O N : Nat) (o : Ob) (ws bs : List Int) (vw vb : Value) (k : Nat) (vk : Value) (rows : List (Tr × Value × Value × Value)) (c : World) : Prop where
 q : QD w A n ca paid er O N o vw vb vk c
 len : rows.length = k
 own : c.ownsRow (N + 1) 114 5 vk k (kcs rows)
 foot : Foot (fun u => SliceR 1 vw ws.length (u64s ws) u ∧ SliceR 1 vb bs.length (u8s bs) u ∧ ∀ r, r ∈ rows → TrR u r.1 r.2.1 r.2.2.1 r.2.2.2) c (FQ N vk c)
 trb : ∀ r, r ∈ rows → TrB r.1
theorem QK.begin {w : World} {A : Option Addr} {n ca : Nat} {paid er : Int} {O N : Nat} {o : Ob} {ws bs : List Int} {vw vb : Value} {c : World}
    (hq : QD w A n ca paid er O N o vw vb (.slice none 0 0) c) (hw : c.ownsRow (N + 1) 22 1 vw ws.length (u64s ws)) (hb : c.ownsRow (N + 1) 5 1 vb bs.length (u8s bs)) :
    QK w A n ca paid er O N o ws bs vw vb 0 (.slice none 0 0) [] c := by
 refine ⟨hq, rfl, World.ownsRow_nil _ _ _ _, ?_, fun r h => by cases h⟩
 refine (((Foot.of_own hw).and (Foot.of_own hb)).imp (fun u h => ⟨h.1, h.2, fun r hr => by cases hr⟩)).mono (fun j hj => hj.2.1) (fun j hj => ?_)
 rcases hj with hj | hj
 ·exact ⟨by have := (hw.lt j hj).1; omega, (hw.lt j hj).2, by simp [Value.ownBlock]⟩
 ·exact ⟨by have := (hb.lt j hj).1; omega, (hb.lt j hj).2, by simp [Value.ownBlock]⟩
structure QM (w : World) (A : Option Addr) (n ca : Nat) (paid er : Int) (O N : Nat) (o : Ob) (ws bs : List Int) (vw vb : Value) (k : Nat) (vk : Value) (rows : List (Tr × Value × Value × Value)) (kid : Tr × Value × Value × Value) (c : World) : Prop where
 q : QD w A n ca paid er O N o vw vb vk c
 own : c.ownsRow (N + 1) 114 5 vk k (kcs rows)
 foot : Foot (fun u => SliceR 1 vw ws.length (u64s ws) u ∧ SliceR 1 vb bs.length (u8s bs) u ∧ ∀ r, r ∈ rows ++ [kid] → TrR u r.1 r.2.1 r.2.2.1 r.2.2.2) c (FQ N vk c)
theorem QK.called {w : World} {A : Option Addr} {n ca : Nat} {paid er : Int} {O N : Nat} {o : Ob} {ws bs : List Int} {vw vb : Value} {k : Nat} {vk : Value} {rows : List (Tr × Value × Value × Value)} {c c' : World}
    (h : QK w A n ca paid er O N o ws bs vw vb k vk rows c) {t : Tr} {xw xb xk : Value} (hg : Grow c c') (hf : Foot (fun u => TrR u t xw xb xk) c' (fun j => c.heap.size ≤ j ∧ j < c'.heap.size)) :
    QM w A n ca paid er O N o ws bs vw vb k vk rows (t, xw, xb, xk) c' := by
 have hb := h.q.big
 refine ⟨h.q.later hg, own_keep h.own hg (fun _ _ h => h), ?_⟩
 refine (((h.foot.grow hg).and hf).imp (fun u hu => ⟨hu.1.1, hu.1.2.1, fun r hr => by
  rcases List.mem_append.1 hr with e | e
  ·exact hu.1.2.2 r e
  ·rw [List.mem_singleton.1 e]; exact hu.2⟩)).mono (fun j hj => hj.2.1) (fun j hj => ?_)
 rcases hj with hj | hj
 ·exact ⟨hj.1, Nat.lt_of_lt_of_le hj.2.1 hg.size, hj.2.2⟩
 ·exact ⟨by omega, hj.2, fun e => by have := (h.own.lt j e).2; omega⟩
theorem QM.grow {w : World} {A : Option Addr} {n ca : Nat} {paid er : Int} {O N : Nat} {o : Ob} {ws bs : List Int} {vw vb : Value} {k : Nat} {vk : Value} {rows : List (Tr × Value × Value × Value)} {kid : Tr × Value × Value × Value} {c c' : World}
    (h : QM w A n ca paid er O N o ws bs vw vb k vk rows kid c) (hg : Grow c c') : QM w A n ca paid er O N o ws bs vw vb k vk rows kid c' :=
 ⟨h.q.later hg, own_keep h.own hg (fun _ _ h => h), (h.foot.grow hg).mono (fun j hj => hj.2.1) (fun j hj => ⟨hj.1, Nat.lt_of_lt_of_le hj.2.1 hg.size, hj.2.2⟩)⟩
theorem QM.appended {w : World} {A : Option Addr} {n ca : Nat} {paid er : Int} {O N : Nat} {o : Ob} {ws bs : List Int} {vw vb : Value} {k : Nat} {vk v4 : Value} {rows : List (Tr × Value × Value × Value)} {kid : Tr × Value × Value × Value} {c c4 : World} {p : Prop}
    (h : QM w A n ca paid er O N o ws bs vw vb k vk rows kid c) (hap : Apped (N + 1) 114 5 vk v4 (k + 1) (kcs rows ++ [.int .i64 kid.1.kind, .int .i64 kid.1.size, kid.2.1, kid.2.2.1, kid.2.2.2]) c c4 p)
    (hlen : rows.length = k) (htrb : ∀ r, r ∈ rows ++ [kid] → TrB r.1) :
    QK w A n ca paid er O N o ws bs vw vb (k + 1) v4 (rows ++ [kid]) (c4.setCell ⟨N, 4, none⟩ v4) ∧ QD w A n ca paid er O N o vw vb vk c4 := by
 have hv : ∀ j, vk.ownBlock = some j → N < j := fun j hj => (h.own.lt j hj).1
 have hk : Keep (fun j => vk.ownBlock = some j) c c4 := (Keep.refl _ c).grown hap.grew (fun j hj => .inl hj)
 have hq4 := h.q.keep (hk.mono (fun j hj => hv j hj))
 have hkN : Keep (fun j => j = N) c4 (c4.setCell ⟨N, 4, none⟩ v4) := (Keep.refl (fun j => j = N) c4).setCell (p := ⟨N, 4, none⟩) (.inl rfl) _
 have hv4 : ∀ j, v4.ownBlock = some j → vk.ownBlock = some j ∨ c.heap.size ≤ j := fun j hj => (of_append hap j hj).imp id (fun e => by omega)
 have hv4N : ∀ j, v4.ownBlock = some j → N < j := fun j hj => (hap.own.lt j hj).1
 refine ⟨⟨hq4.put4 v4, by simp [hlen], ?_, ?_, htrb⟩, hq4⟩
 ·have := own_keep hap.own hkN (fun j hj e => by have := hv4N j hj; omega)
  rw [kcs_append]
  simpa [kcs] using this
 ·refine ((h.foot.keep hk (fun j hj e => hj.2.2 e)).keep hkN (fun j hj e => by have := hj.1; omega)).mono (fun j hj => hj.2.1) (fun j hj => ⟨hj.1, ?_, fun e => ?_⟩)
  ·have := hk.size
   have := hkN.size
   have := hj.2.1
   omega
  ·rcases hv4 j e with e2 | e2
   ·exact hj.2.2 e2
   ·have := hj.2.1; omega
end Go.Proofs.YtfkcpaahdlkcdaaGreat
namespace Go.Proofs.YtfkcpaahdlkcdaaGreat
open Go.RowKit
theorem results_cell2 {fn : Func} {p q : Tmp} {ty tz : TypeId} (h : fn.results = #[.cell p ty, .cell q tz]) (tmps : Array Value) (P : Program) (w : World) :
    (results fn tmps).run P w = ((asAddr (tmps.getD p undef)).run P w).andThen fun a w₁ => ((loadVar ty a).run P w₁).andThen fun v w₂ => ((asAddr (tmps.getD q undef)).run P w₂).andThen fun b w₃ => ((loadVar tz b).run P w₃).andThen fun u w₄ => .ok (.tuple #[v, u]) w₄ := by
 simp only [results, h]
 simp [Sem.run_bind, Result.andThen]
theorem qnode_follow (last : Bool) (f : Int → Int → Int → Tr × Int × Int) (a : List (List Int)) (ho : OkA a) (A : Option Addr) (c : Nat) (w : World) (h : RowsR .u64 a (.slice A a.length c) w) (seg at_ paid deep : Int) (p0 : 0 ≤ paid) (p1 : paid ≤ 8192) (hl : last = decide (32 ≤ deep)) (hfe : (followP (szs a) (wordA a) seg at_).2 ≠ 0) :
    Calls Tryz.prog 142 #[.agg #[.slice A a.length c, .bool false, .slice none 0 0, .int .i64 paid, .int .i64 0], .int .i64 seg, .int .i64 at_, .int .i64 deep] w (QNPost A a.length c (nodeS (szs a) (wordA a) last f seg at_ paid) w) := by
 have E0 : Hid (nodeS (szs a) (wordA a) last f seg at_ paid = if (followP (szs a) (wordA a) seg at_).2 = 0 then if (followP (szs a) (wordA a) seg at_).1.kind ≠ 0 ∧ last = true then (tr0, 21, paid + (1 + obWords (followP (szs a) (wordA a) seg at_).1)) else if 8192 < paid + (1 + obWords (followP (szs a) (wordA a) seg at_).1) then (tr0, 22, paid + (1 + obWords (followP (szs a) (wordA a) seg at_).1)) else nodeT (wordA a) f (followP (szs a) (wordA a) seg at_).1 (paid + (1 + obWords (followP (szs a) (wordA a) seg at_).1)) else (tr0, (followP (szs a) (wordA a) seg at_).2, paid)) := LH rfl
 have h2 := heap_two w (.cells #[.slice A a.length c, .bool false, .slice none 0 0, .int .i64 paid, .int .i64 0] 216) (.cells #[.slice none 0 0, .bool false, .slice none 0 0, .int .i64 0, .int .i64 0] 216)
 have hsz2 : ((w.alloc (.cells #[.slice A a.length c, .bool false, .slice none 0 0, .int .i64 paid, .int .i64 0] 216)).alloc (.cells #[.slice none 0 0, .bool false, .slice none 0 0, .int .i64 0, .int .i64 0] 216)).heap.size = w.heap.size + 2 := by simp
 have hz := heap_alloc_new ((w.alloc (.cells #[.slice A a.length c, .bool false, .slice none 0 0, .int .i64 paid, .int .i64 0] 216)).alloc (.cells #[.slice none 0 0, .bool false, .slice none 0 0, .int .i64 0, .int .i64 0] 216)) (.cells #[.int .i64 0, .int .i64 0, .slice none 0 0, .slice none 0 0, .slice none 0 0] 114)
 rw [hsz2] at hz
 have hgl := (Keep.refl NoB ((w.alloc (.cells #[.slice A a.length c, .bool false, .slice none 0 0, .int .i64 paid, .int .i64 0] 216)).alloc (.cells #[.slice none 0 0, .bool false, .slice none 0 0, .int .i64 0, .int .i64 0] 216))).alloc (.cells #[.int .i64 0, .int .i64 0, .slice none 0 0, .slice none 0 0, .slice none 0 0] 114)
 have HD4 := LH (Grow.heap hgl h2.1)
 have HD8 := LH (Grow.heap hgl h2.2.1)
 have HD9 := LH hz
 have hg0 := h2.2.2.grow hgl
 have HG := LH hg0
 have H := LH (h.grow hg0)
 have HA := LH ho
 have HOI := LH (followP_in (souOk_whole ho) seg at_)
 have HFW := LH (qfollow_calls a ho A c _ (h.grow hg0) seg at_)
 obtain ⟨c0, c1, c2, c3, c4, cf⟩ := cells5 HD4.out
 clear h ho h2 hsz2 hz hgl hg0
 replace E0 := LH (E0.out.trans (if_neg hfe))
 go_enter Tryz.func142, Tryz.ntmps142
 go_wp2_with fail
 refine HFW.out.mono ?_
 rintro e w1 ⟨rfl, hg⟩
 generalize (followP (szs a) (wordA a) seg at_).1 = o at *
 generalize (followP (szs a) (wordA a) seg at_).2 = fe at *
 have hgo := (Keep.refl NoB w1).alloc (.cells #[.int .i64 o.kind, .int .i64 o.seg, .int .i64 o.at_, .int .i64 o.data, .int .i64 o.ptrs, .int .i64 o.size, .int .i64 o.count] 257)
 have HOB := LH (heap_alloc_new w1 (.cells #[.int .i64 o.kind, .int .i64 o.seg, .int .i64 o.at_, .int .i64 o.data, .int .i64 o.ptrs, .int .i64 o.size, .int .i64 o.count] 257))
 have hd9 := Grow.heap hg HD9.out
 have hlo : w.heap.size + 2 < w1.heap.size := (gE hd9).1
 have HLO := LH hlo
 replace HD4 := LH (Grow.heap (hg.grow hgo) HD4.out)
 replace HD8 := LH (Grow.heap (hg.grow hgo) HD8.out)
 replace HD9 := LH (Grow.heap hgo hd9)
 replace HG := LH (HG.out.grow (hg.grow hgo))
 replace H := LH (H.out.grow (hg.grow hgo))
 have hne1 : w1.heap.size ≠ w.heap.size := by omega
 have hne2 : w.heap.size ≠ w1.heap.size := by omega
 clear hg hgo hd9 hlo c0 c1 c2 c3 c4 cf HFW
 obtain ⟨c0, c1, c2, c3, c4, cf⟩ := cells5 HD4.out
 obtain ⟨o0, o1, o2, o3, o4, o5, o6, of⟩ := cells7 HOB.out
 have how := obWords_in HOI.out
 have hs1 : IntKind.i64.wrap (1 + obWords o) = 1 + obWords o := IntWalk.i64_in _ (by omega)
 have hs2 : IntKind.i64.wrap (paid + (1 + obWords o)) = paid + (1 + obWords o) := IntWalk.i64_in _ (by omega)
 have heb : (fe == 0) = false := by simpa using hfe
 have hen : (fe != 0) = true := by simpa using hfe
 have HER := LH hfe
 clear hfe hl
 clear how
 go_wp2
 refine region_ord [0, 1, 2, 3, 4, 5, 6, 7] [3, 7] [1, 2] [7] rfl (by kernel_rfl) ?_
 refine ord_pure rfl rfl rfl rfl rfl (fun _ _ _ _ h => h) ?_ ?_ ?_ ?_ ?_
 rotate_left 2
 ·intro w'; go_simp; with_reducible rfl
 ·simp only [Act.put, pB, pC, pD]; rfl
 refine ord_read rfl rfl rfl rfl rfl (fun _ _ _ _ h => h) ?_ ?_ ?_ ?_ ?_
 rotate_left 2
 ·intro w' hg; have q := hg.cell c3 (fun h => h); go_simp; with_reducible rfl
 ·simp only [Act.put, pB, pC, pD]; rfl
 refine ord_read rfl rfl rfl rfl rfl (fun _ _ _ _ h => h) ?_ ?_ ?_ ?_ ?_
 rotate_left 2
 ·intro w' hg; have q0 := hg.cell o0 (fun h => h); have q1 := hg.cell o1 (fun h => h); have q2 := hg.cell o2 (fun h => h); have q3 := hg.cell o3 (fun h => h); have q4 := hg.cell o4 (fun h => h); have q5 := hg.cell o5 (fun h => h); have q6 := hg.cell o6 (fun h => h); go_simp; with_reducible rfl
 ·simp only [Act.put, pB, pC, pD]; rfl
 refine ord_call rfl rfl rfl rfl rfl Tryz.func174 rfl rfl [.agg #[.int .i64 o.kind, .int .i64 o.seg, .int .i64 o.at_, .int .i64 o.data, .int .i64 o.ptrs, .int .i64 o.size, .int .i64 o.count]] rfl ?_
 refine (show Calls Tryz.prog 174 #[.agg #[.int .i64 o.kind, .int .i64 o.seg, .int .i64 o.at_, .int .i64 o.data, .int .i64 o.ptrs, .int .i64 o.size, .int .i64 o.count]] _ (fun e w' => e = .returned (.int .i64 (obWords o)) ∧ Grow _ w') from qobwords_calls o _ HOI.out.ok).mono ?_
 rintro e w3 ⟨rfl, hg⟩
 refine ⟨_, rfl, fun _ => hg, ?_⟩
 have hgd : Grow (w1.alloc (.cells #[.int .i64 o.kind, .int .i64 o.seg, .int .i64 o.at_, .int .i64 o.data, .int .i64 o.ptrs, .int .i64 o.size, .int .i64 o.count] 257)) w3 := (Keep.refl NoB (w1.alloc (.cells #[.int .i64 o.kind, .int .i64 o.seg, .int .i64 o.at_, .int .i64 o.data, .int .i64 o.ptrs, .int .i64 o.size, .int .i64 o.count] 257))).drew.grow hg
 replace HD4 := LH (Grow.heap hgd HD4.out)
 replace HD8 := LH (Grow.heap hgd HD8.out)
 replace HD9 := LH (Grow.heap hgd HD9.out)
 replace HOB := LH (Grow.heap hgd HOB.out)
 replace HG := LH (HG.out.grow hgd)
 replace H := LH (H.out.grow hgd)
 clear hg hgd c0 c1 c2 c3 c4 cf o0 o1 o2 o3 o4 o5 o6 of
 simp only [Act.put, pB, pC, pD]
 iterate 3
  refine ord_pure rfl rfl rfl rfl rfl (fun _ _ _ _ h => h) ?_ ?_ ?_ ?_ ?_
  rotate_left 2
  ·intro w'; go_simp; with_reducible rfl
  ·simp only [Act.put, pB, pC, pD]; rfl
 obtain ⟨c0, c1, c2, c3, c4, cf⟩ := cells5 HD4.out
 refine ord_put rfl rfl rfl rfl ?_ ?_ (fun h => absurd (by simp) h) ?_
 rotate_left
 ·go_simp; with_reducible rfl
 refine ord_nil ?_
 have hk : Keep (fun j => j = w.heap.size) w3 (w3.setCell ⟨w.heap.size, 3, none⟩ (.int .i64 (paid + (1 + obWords o)))) := (Keep.refl (fun j => j = w.heap.size) w3).setCell (p := ⟨w.heap.size, 3, none⟩) (.inl rfl) _
 have hd4 : (w3.setCell ⟨w.heap.size, 3, none⟩ (.int .i64 (paid + (1 + obWords o)))).heap[w.heap.size]? = some (.cells #[.slice A a.length c, .bool false, .slice none 0 0, .int .i64 (paid + (1 + obWords o)), .int .i64 0] 216 (0, 0)) := by
  have h0 := HD4.out
  simp only [World.setCell, Array.getElem?_modify]
  simp [h0]
 replace HD8 := LH ((hk.block _ (gE HD8.out).1 (by omega)).trans HD8.out)
 replace HD9 := LH ((hk.block _ (gE HD9.out).1 (by omega)).trans HD9.out)
 replace HOB := LH ((hk.block _ (gE HOB.out).1 (by have := HLO.out; omega)).trans HOB.out)
 replace HG := LH (HG.out.setCell (p := ⟨w.heap.size, 3, none⟩) (.inr (Nat.le_refl _)) (.int .i64 (paid + (1 + obWords o))))
 replace HD4 := LH hd4
 clear hk hd4 c0 c1 c2 c3 c4 cf
 revert HD4 HD8 HD9 HOB HG
 generalize w3.setCell ⟨w.heap.size, 3, none⟩ (.int .i64 (paid + (1 + obWords o))) = w4
 intro HD8 HD9 HOB HG HD4
 obtain ⟨c0, c1, c2, c3, c4, cf⟩ := cells5 HD4.out
 have hd4 : (w4.setCell ⟨w.heap.size, 4, none⟩ (.int .i64 fe)).heap[w.heap.size]? = some (.cells #[.slice A a.length c, .bool false, .slice none 0 0, .int .i64 (paid + (1 + obWords o)), .int .i64 fe] 216 (0, 0)) := by
  have h0 := HD4.out
  simp only [World.setCell, Array.getElem?_modify]
  simp [h0]
 have hk : Keep (fun j => j = w.heap.size) w4 (w4.setCell ⟨w.heap.size, 4, none⟩ (.int .i64 fe)) := (Keep.refl (fun j => j = w.heap.size) w4).setCell (p := ⟨w.heap.size, 4, none⟩) (.inl rfl) _
 have hd8 := (hk.block _ (gE HD8.out).1 (by omega)).trans HD8.out
 have hd9 := (hk.block _ (gE HD9.out).1 (by omega)).trans HD9.out
 have hg5 := HG.out.setCell (p := ⟨w.heap.size, 4, none⟩) (.inr (Nat.le_refl _)) (.int .i64 fe)
 obtain ⟨x0, x1, x2, x3, x4, xf⟩ := cells5 hd4
 obtain ⟨y0, y1, y2, y3, y4, yf⟩ := cells5 hd8
 obtain ⟨hs6, hg6⟩ := stored5 (.slice A a.length c) (.bool false) (.slice none 0 0) (.int .i64 (paid + (1 + obWords o))) (.int .i64 fe) hg5 (by omega) hd8
 have hk6 := keepN5 (c := (w4.setCell ⟨w.heap.size, 4, none⟩ (.int .i64 fe))) (N := w.heap.size + 1) (.slice A a.length c) (.bool false) (.slice none 0 0) (.int .i64 (paid + (1 + obWords o))) (.int .i64 fe)
 have hd96 := (hk6.block _ (gE hd9).1 (by omega)).trans hd9
 obtain ⟨z0, z1, z2, z3, z4, zf⟩ := cells5 hd96
 obtain ⟨hs7, hg7⟩ := stored5 (.int .i64 0) (.int .i64 0) (.slice none 0 0) (.slice none 0 0) (.slice none 0 0) hg6 (by omega) hd96
 have hk7 := keepN5 (c := ((((((w4.setCell ⟨w.heap.size, 4, none⟩ (.int .i64 fe)).setCell ⟨w.heap.size + 1, 0, none⟩ (.slice A a.length c)).setCell ⟨w.heap.size + 1, 1, none⟩ (.bool false)).setCell ⟨w.heap.size + 1, 2, none⟩ (.slice none 0 0)).setCell ⟨w.heap.size + 1, 3, none⟩ (.int .i64 (paid + (1 + obWords o)))).setCell ⟨w.heap.size + 1, 4, none⟩ (.int .i64 fe))) (N := w.heap.size + 2) (.int .i64 0) (.int .i64 0) (.slice none 0 0) (.slice none 0 0) (.slice none 0 0)
 have hs67 := (hk7.block _ (gE hs6).1 (by omega)).trans hs6
 have HR8 := LH hs67
 have HR9 := LH hs7
 have HGR := LH hg7
 clear hk hd4 hd8 hd9 hg5 hs6 hg6 hk6 hd96 hs7 hg7 hk7 hs67
 go_wp2
 clear x0 x1 x2 x3 x4 xf y0 y1 y2 y3 y4 yf z0 z1 z2 z3 z4 zf
 revert HR8 HR9 HGR
 generalize (((((((((((w4.setCell ⟨w.heap.size, 4, none⟩ (.int .i64 fe)).setCell ⟨w.heap.size + 1, 0, none⟩ (.slice A a.length c)).setCell ⟨w.heap.size + 1, 1, none⟩ (.bool false)).setCell ⟨w.heap.size + 1, 2, none⟩ (.slice none 0 0)).setCell ⟨w.heap.size + 1, 3, none⟩ (.int .i64 (paid + (1 + obWords o)))).setCell ⟨w.heap.size + 1, 4, none⟩ (.int .i64 fe)).setCell ⟨w.heap.size + 2, 0, none⟩ (.int .i64 0)).setCell ⟨w.heap.size + 2, 1, none⟩ (.int .i64 0)).setCell ⟨w.heap.size + 2, 2, none⟩ (.slice none 0 0)).setCell ⟨w.heap.size + 2, 3, none⟩ (.slice none 0 0)).setCell ⟨w.heap.size + 2, 4, none⟩ (.slice none 0 0)) = w7
 intro HR8 HR9 HGR
 obtain ⟨x0, x1, x2, x3, x4, xf⟩ := cells5 HR8.out
 obtain ⟨y0, y1, y2, y3, y4, yf⟩ := cells5 HR9.out
 refine bodyPost_ret (v := .tuple #[.agg #[.slice A a.length c, .bool false, .slice none 0 0, .int .i64 (paid + (1 + obWords o)), .int .i64 fe], .agg #[.int .i64 0, .int .i64 0, .slice none 0 0, .slice none 0 0, .slice none 0 0]]) ?_ rfl ?_
 ·rw [results_cell2 rfl]; go_simp
 ·rw [E0.out]
  exact ⟨(paid + (1 + obWords o)), 0, 0, none, none, none, 0, 0, 0, 0, 0, 0, rfl, HGR.out, fun h => absurd h (by first | exact HER.out | simp)⟩
theorem qnode_deep (last : Bool) (f : Int → Int → Int → Tr × Int × Int) (a : List (List Int)) (ho : OkA a) (A : Option Addr) (c : Nat) (w : World) (h : RowsR .u64 a (.slice A a.length c) w) (seg at_ paid deep : Int) (p0 : 0 ≤ paid) (p1 : paid ≤ 8192) (hl : last = decide (32 ≤ deep)) (hfe : (followP (szs a) (wordA a) seg at_).2 = 0) (hk : (followP (szs a) (wordA a) seg at_).1.kind ≠ 0) (hd : 32 ≤ deep) :
    Calls Tryz.prog 142 #[.agg #[.slice A a.length c, .bool false, .slice none 0 0, .int .i64 paid, .int .i64 0], .int .i64 seg, .int .i64 at_, .int .i64 deep] w (QNPost A a.length c (nodeS (szs a) (wordA a) last f seg at_ paid) w) := by
 have E0 : Hid (nodeS (szs a) (wordA a) last f seg at_ paid = if (followP (szs a) (wordA a) seg at_).2 = 0 then if (followP (szs a) (wordA a) seg at_).1.kind ≠ 0 ∧ last = true then (tr0, 21, paid + (1 + obWords (followP (szs a) (wordA a) seg at_).1)) else if 8192 < paid + (1 + obWords (followP (szs a) (wordA a) seg at_).1) then (tr0, 22, paid + (1 + obWords (followP (szs a) (wordA a) seg at_).1)) else nodeT (wordA a) f (followP (szs a) (wordA a) seg at_).1 (paid + (1 + obWords (followP (szs a) (wordA a) seg at_).1)) else (tr0, (followP (szs a) (wordA a) seg at_).2, paid)) := LH rfl
 have h2 := heap_two w (.cells #[.slice A a.length c, .bool false, .slice none 0 0, .int .i64 paid, .int .i64 0] 216) (.cells #[.slice none 0 0, .bool false, .slice none 0 0, .int .i64 0, .int .i64 0] 216)
 have hsz2 : ((w.alloc (.cells #[.slice A a.length c, .bool false, .slice none 0 0, .int .i64 paid, .int .i64 0] 216)).alloc (.cells #[.slice none 0 0, .bool false, .slice none 0 0, .int .i64 0, .int .i64 0] 216)).heap.size = w.heap.size + 2 := by simp
 have hz := heap_alloc_new ((w.alloc (.cells #[.slice A a.length c, .bool false, .slice none 0 0, .int .i64 paid, .int .i64 0] 216)).alloc (.cells #[.slice none 0 0, .bool false, .slice none 0 0, .int .i64 0, .int .i64 0] 216)) (.cells #[.int .i64 0, .int .i64 0, .slice none 0 0, .slice none 0 0, .slice none 0 0] 114)
 rw [hsz2] at hz
 have hgl := (Keep.refl NoB ((w.alloc (.cells #[.slice A a.length c, .bool false, .slice none 0 0, .int .i64 paid, .int .i64 0] 216)).alloc (.cells #[.slice none 0 0, .bool false, .slice none 0 0, .int .i64 0, .int .i64 0] 216))).alloc (.cells #[.int .i64 0, .int .i64 0, .slice none 0 0, .slice none 0 0, .slice none 0 0] 114)
 have HD4 := LH (Grow.heap hgl h2.1)
 have HD8 := LH (Grow.heap hgl h2.2.1)
 have HD9 := LH hz
 have hg0 := h2.2.2.grow hgl
 have HG := LH hg0
 have H := LH (h.grow hg0)
 have HA := LH ho
 have HOI := LH (followP_in (souOk_whole ho) seg at_)
 have HFW := LH (qfollow_calls a ho A c _ (h.grow hg0) seg at_)
 obtain ⟨c0, c1, c2, c3, c4, cf⟩ := cells5 HD4.out
 clear h ho h2 hsz2 hz hgl hg0
 replace E0 := LH ((E0.out.trans (if_pos hfe)).trans (if_pos ⟨hk, by rw [hl]; simpa using hd⟩))
 go_enter Tryz.func142, Tryz.ntmps142
 go_wp2_with fail
 refine HFW.out.mono ?_
 rintro e w1 ⟨rfl, hg⟩
 generalize (followP (szs a) (wordA a) seg at_).1 = o at *
 generalize (followP (szs a) (wordA a) seg at_).2 = fe at *
 have hgo := (Keep.refl NoB w1).alloc (.cells #[.int .i64 o.kind, .int .i64 o.seg, .int .i64 o.at_, .int .i64 o.data, .int .i64 o.ptrs, .int .i64 o.size, .int .i64 o.count] 257)
 have HOB := LH (heap_alloc_new w1 (.cells #[.int .i64 o.kind, .int .i64 o.seg, .int .i64 o.at_, .int .i64 o.data, .int .i64 o.ptrs, .int .i64 o.size, .int .i64 o.count] 257))
 have hd9 := Grow.heap hg HD9.out
 have hlo : w.heap.size + 2 < w1.heap.size := (gE hd9).1
 have HLO := LH hlo
 replace HD4 := LH (Grow.heap (hg.grow hgo) HD4.out)
 replace HD8 := LH (Grow.heap (hg.grow hgo) HD8.out)
 replace HD9 := LH (Grow.heap hgo hd9)
 replace HG := LH (HG.out.grow (hg.grow hgo))
 replace H := LH (H.out.grow (hg.grow hgo))
 have hne1 : w1.heap.size ≠ w.heap.size := by omega
 have hne2 : w.heap.size ≠ w1.heap.size := by omega
 clear hg hgo hd9 hlo c0 c1 c2 c3 c4 cf HFW
 obtain ⟨c0, c1, c2, c3, c4, cf⟩ := cells5 HD4.out
 obtain ⟨o0, o1, o2, o3, o4, o5, o6, of⟩ := cells7 HOB.out
 have how := obWords_in HOI.out
 have hs1 : IntKind.i64.wrap (1 + obWords o) = 1 + obWords o := IntWalk.i64_in _ (by omega)
 have hs2 : IntKind.i64.wrap (paid + (1 + obWords o)) = paid + (1 + obWords o) := IntWalk.i64_in _ (by omega)
 have heb : (fe == 0) = true := by simpa using hfe
 have hkb : (o.kind != 0) = true := by simpa using hk
 have HER : Hid ((21 : Int) ≠ 0) := LH (by decide)
 clear hfe hl hk
 clear how
 go_wp2
 refine region_ord [0, 1, 2, 3, 4, 5, 6, 7] [3, 7] [1, 2] [7] rfl (by kernel_rfl) ?_
 refine ord_pure rfl rfl rfl rfl rfl (fun _ _ _ _ h => h) ?_ ?_ ?_ ?_ ?_
 rotate_left 2
 ·intro w'; go_simp; with_reducible rfl
 ·simp only [Act.put, pB, pC, pD]; rfl
 refine ord_read rfl rfl rfl rfl rfl (fun _ _ _ _ h => h) ?_ ?_ ?_ ?_ ?_
 rotate_left 2
 ·intro w' hg; have q := hg.cell c3 (fun h => h); go_simp; with_reducible rfl
 ·simp only [Act.put, pB, pC, pD]; rfl
 refine ord_read rfl rfl rfl rfl rfl (fun _ _ _ _ h => h) ?_ ?_ ?_ ?_ ?_
 rotate_left 2
 ·intro w' hg; have q0 := hg.cell o0 (fun h => h); have q1 := hg.cell o1 (fun h => h); have q2 := hg.cell o2 (fun h => h); have q3 := hg.cell o3 (fun h => h); have q4 := hg.cell o4 (fun h => h); have q5 := hg.cell o5 (fun h => h); have q6 := hg.cell o6 (fun h => h); go_simp; with_reducible rfl
 ·simp only [Act.put, pB, pC, pD]; rfl
 refine ord_call rfl rfl rfl rfl rfl Tryz.func174 rfl rfl [.agg #[.int .i64 o.kind, .int .i64 o.seg, .int .i64 o.at_, .int .i64 o.data, .int .i64 o.ptrs, .int .i64 o.size, .int .i64 o.count]] rfl ?_
 refine (show Calls Tryz.prog 174 #[.agg #[.int .i64 o.kind, .int .i64 o.seg, .int .i64 o.at_, .int .i64 o.data, .int .i64 o.ptrs, .int .i64 o.size, .int .i64 o.count]] _ (fun e w' => e = .returned (.int .i64 (obWords o)) ∧ Grow _ w') from qobwords_calls o _ HOI.out.ok).mono ?_
 rintro e w3 ⟨rfl, hg⟩
 refine ⟨_, rfl, fun _ => hg, ?_⟩
 have hgd : Grow (w1.alloc (.cells #[.int .i64 o.kind, .int .i64 o.seg, .int .i64 o.at_, .int .i64 o.data, .int .i64 o.ptrs, .int .i64 o.size, .int .i64 o.count] 257)) w3 := (Keep.refl NoB (w1.alloc (.cells #[.int .i64 o.kind, .int .i64 o.seg, .int .i64 o.at_, .int .i64 o.data, .int .i64 o.ptrs, .int .i64 o.size, .int .i64 o.count] 257))).drew.grow hg
 replace HD4 := LH (Grow.heap hgd HD4.out)
 replace HD8 := LH (Grow.heap hgd HD8.out)
 replace HD9 := LH (Grow.heap hgd HD9.out)
 replace HOB := LH (Grow.heap hgd HOB.out)
 replace HG := LH (HG.out.grow hgd)
 replace H := LH (H.out.grow hgd)
 clear hg hgd c0 c1 c2 c3 c4 cf o0 o1 o2 o3 o4 o5 o6 of
 simp only [Act.put, pB, pC, pD]
 iterate 3
  refine ord_pure rfl rfl rfl rfl rfl (fun _ _ _ _ h => h) ?_ ?_ ?_ ?_ ?_
  rotate_left 2
  ·intro w'; go_simp; with_reducible rfl
  ·simp only [Act.put, pB, pC, pD]; rfl
 obtain ⟨c0, c1, c2, c3, c4, cf⟩ := cells5 HD4.out
 refine ord_put rfl rfl rfl rfl ?_ ?_ (fun h => absurd (by simp) h) ?_
 rotate_left
 ·go_simp; with_reducible rfl
 refine ord_nil ?_
 have hk : Keep (fun j => j = w.heap.size) w3 (w3.setCell ⟨w.heap.size, 3, none⟩ (.int .i64 (paid + (1 + obWords o)))) := (Keep.refl (fun j => j = w.heap.size) w3).setCell (p := ⟨w.heap.size, 3, none⟩) (.inl rfl) _
 have hd4 : (w3.setCell ⟨w.heap.size, 3, none⟩ (.int .i64 (paid + (1 + obWords o)))).heap[w.heap.size]? = some (.cells #[.slice A a.length c, .bool false, .slice none 0 0, .int .i64 (paid + (1 + obWords o)), .int .i64 0] 216 (0, 0)) := by
  have h0 := HD4.out
  simp only [World.setCell, Array.getElem?_modify]
  simp [h0]
 replace HD8 := LH ((hk.block _ (gE HD8.out).1 (by omega)).trans HD8.out)
 replace HD9 := LH ((hk.block _ (gE HD9.out).1 (by omega)).trans HD9.out)
 replace HOB := LH ((hk.block _ (gE HOB.out).1 (by have := HLO.out; omega)).trans HOB.out)
 replace HG := LH (HG.out.setCell (p := ⟨w.heap.size, 3, none⟩) (.inr (Nat.le_refl _)) (.int .i64 (paid + (1 + obWords o))))
 replace HD4 := LH hd4
 clear hk hd4 c0 c1 c2 c3 c4 cf
 revert HD4 HD8 HD9 HOB HG
 generalize w3.setCell ⟨w.heap.size, 3, none⟩ (.int .i64 (paid + (1 + obWords o))) = w4
 intro HD8 HD9 HOB HG HD4
 obtain ⟨c0, c1, c2, c3, c4, cf⟩ := cells5 HD4.out
 have hd4 : (w4.setCell ⟨w.heap.size, 4, none⟩ (.int .i64 21)).heap[w.heap.size]? = some (.cells #[.slice A a.length c, .bool false, .slice none 0 0, .int .i64 (paid + (1 + obWords o)), .int .i64 21] 216 (0, 0)) := by
  have h0 := HD4.out
  simp only [World.setCell, Array.getElem?_modify]
  simp [h0]
 have hk : Keep (fun j => j = w.heap.size) w4 (w4.setCell ⟨w.heap.size, 4, none⟩ (.int .i64 21)) := (Keep.refl (fun j => j = w.heap.size) w4).setCell (p := ⟨w.heap.size, 4, none⟩) (.inl rfl) _
 have hd8 := (hk.block _ (gE HD8.out).1 (by omega)).trans HD8.out
 have hd9 := (hk.block _ (gE HD9.out).1 (by omega)).trans HD9.out
 have hg5 := HG.out.setCell (p := ⟨w.heap.size, 4, none⟩) (.inr (Nat.le_refl _)) (.int .i64 21)
 obtain ⟨x0, x1, x2, x3, x4, xf⟩ := cells5 hd4
 obtain ⟨y0, y1, y2, y3, y4, yf⟩ := cells5 hd8
 obtain ⟨hs6, hg6⟩ := stored5 (.slice A a.length c) (.bool false) (.slice none 0 0) (.int .i64 (paid + (1 + obWords o))) (.int .i64 21) hg5 (by omega) hd8
 have hk6 := keepN5 (c := (w4.setCell ⟨w.heap.size, 4, none⟩ (.int .i64 21))) (N := w.heap.size + 1) (.slice A a.length c) (.bool false) (.slice none 0 0) (.int .i64 (paid + (1 + obWords o))) (.int .i64 21)
 have hd96 := (hk6.block _ (gE hd9).1 (by omega)).trans hd9
 obtain ⟨z0, z1, z2, z3, z4, zf⟩ := cells5 hd96
 obtain ⟨hs7, hg7⟩ := stored5 (.int .i64 0) (.int .i64 0) (.slice none 0 0) (.slice none 0 0) (.slice none 0 0) hg6 (by omega) hd96
 have hk7 := keepN5 (c := ((((((w4.setCell ⟨w.heap.size, 4, none⟩ (.int .i64 21)).setCell ⟨w.heap.size + 1, 0, none⟩ (.slice A a.length c)).setCell ⟨w.heap.size + 1, 1, none⟩ (.bool false)).setCell ⟨w.heap.size + 1, 2, none⟩ (.slice none 0 0)).setCell ⟨w.heap.size + 1, 3, none⟩ (.int .i64 (paid + (1 + obWords o)))).setCell ⟨w.heap.size + 1, 4, none⟩ (.int .i64 21))) (N := w.heap.size + 2) (.int .i64 0) (.int .i64 0) (.slice none 0 0) (.slice none 0 0) (.slice none 0 0)
 have hs67 := (hk7.block _ (gE hs6).1 (by omega)).trans hs6
 have HR8 := LH hs67
 have HR9 := LH hs7
 have HGR := LH hg7
 clear hk hd4 hd8 hd9 hg5 hs6 hg6 hk6 hd96 hs7 hg7 hk7 hs67
 go_wp2
 clear x0 x1 x2 x3 x4 xf y0 y1 y2 y3 y4 yf z0 z1 z2 z3 z4 zf
 revert HR8 HR9 HGR
 generalize (((((((((((w4.setCell ⟨w.heap.size, 4, none⟩ (.int .i64 21)).setCell ⟨w.heap.size + 1, 0, none⟩ (.slice A a.length c)).setCell ⟨w.heap.size + 1, 1, none⟩ (.bool false)).setCell ⟨w.heap.size + 1, 2, none⟩ (.slice none 0 0)).setCell ⟨w.heap.size + 1, 3, none⟩ (.int .i64 (paid + (1 + obWords o)))).setCell ⟨w.heap.size + 1, 4, none⟩ (.int .i64 21)).setCell ⟨w.heap.size + 2, 0, none⟩ (.int .i64 0)).setCell ⟨w.heap.size + 2, 1, none⟩ (.int .i64 0)).setCell ⟨w.heap.size + 2, 2, none⟩ (.slice none 0 0)).setCell ⟨w.heap.size + 2, 3, none⟩ (.slice none 0 0)).setCell ⟨w.heap.size + 2, 4, none⟩ (.slice none 0 0)) = w7
 intro HR8 HR9 HGR
 obtain ⟨x0, x1, x2, x3, x4, xf⟩ := cells5 HR8.out
 obtain ⟨y0, y1, y2, y3, y4, yf⟩ := cells5 HR9.out
 refine bodyPost_ret (v := .tuple #[.agg #[.slice A a.length c, .bool false, .slice none 0 0, .int .i64 (paid + (1 + obWords o)), .int .i64 21], .agg #[.int .i64 0, .int .i64 0, .slice none 0 0, .slice none 0 0, .slice none 0 0]]) ?_ rfl ?_
 ·rw [results_cell2 rfl]; go_simp
 ·rw [E0.out]
  exact ⟨(paid + (1 + obWords o)), 0, 0, none, none, none, 0, 0, 0, 0, 0, 0, rfl, HGR.out, fun h => absurd h (by first | exact HER.out | simp)⟩
theorem qnode_cost0 (last : Bool) (f : Int → Int → Int → Tr × Int × Int) (a : List (List Int)) (ho : OkA a) (A : Option Addr) (c : Nat) (w : World) (h : RowsR .u64 a (.slice A a.length c) w) (seg at_ paid deep : Int) (p0 : 0 ≤ paid) (p1 : paid ≤ 8192) (hl : last = decide (32 ≤ deep)) (hfe : (followP (szs a) (wordA a) seg at_).2 = 0) (hno : ¬ ((followP (szs a) (wordA a) seg at_).1.kind ≠ 0 ∧ last = true)) (hk : (followP (szs a) (wordA a) seg at_).1.kind = 0) (hc : 8192 < paid + (1 + obWords (followP (szs a) (wordA a) seg at_).1)) :
    Calls Tryz.prog 142 #[.agg #[.slice A a.length c, .bool false, .slice none 0 0, .int .i64 paid, .int .i64 0], .int .i64 seg, .int .i64 at_, .int .i64 deep] w (QNPost A a.length c (nodeS (szs a) (wordA a) last f seg at_ paid) w) := by
 have E0 : Hid (nodeS (szs a) (wordA a) last f seg at_ paid = if (followP (szs a) (wordA a) seg at_).2 = 0 then if (followP (szs a) (wordA a) seg at_).1.kind ≠ 0 ∧ last = true then (tr0, 21, paid + (1 + obWords (followP (szs a) (wordA a) seg at_).1)) else if 8192 < paid + (1 + obWords (followP (szs a) (wordA a) seg at_).1) then (tr0, 22, paid + (1 + obWords (followP (szs a) (wordA a) seg at_).1)) else nodeT (wordA a) f (followP (szs a) (wordA a) seg at_).1 (paid + (1 + obWords (followP (szs a) (wordA a) seg at_).1)) else (tr0, (followP (szs a) (wordA a) seg at_).2, paid)) := LH rfl
 have h2 := heap_two w (.cells #[.slice A a.length c, .bool false, .slice none 0 0, .int .i64 paid, .int .i64 0] 216) (.cells #[.slice none 0 0, .bool false, .slice none 0 0, .int .i64 0, .int .i64 0] 216)
 have hsz2 : ((w.alloc (.cells #[.slice A a.length c, .bool false, .slice none 0 0, .int .i64 paid, .int .i64 0] 216)).alloc (.cells #[.slice none 0 0, .bool false, .slice none 0 0, .int .i64 0, .int .i64 0] 216)).heap.size = w.heap.size + 2 := by simp
 have hz := heap_alloc_new ((w.alloc (.cells #[.slice A a.length c, .bool false, .slice none 0 0, .int .i64 paid, .int .i64 0] 216)).alloc (.cells #[.slice none 0 0, .bool false, .slice none 0 0, .int .i64 0, .int .i64 0] 216)) (.cells #[.int .i64 0, .int .i64 0, .slice none 0 0, .slice none 0 0, .slice none 0 0] 114)
 rw [hsz2] at hz
 have hgl := (Keep.refl NoB ((w.alloc (.cells #[.slice A a.length c, .bool false, .slice none 0 0, .int .i64 paid, .int .i64 0] 216)).alloc (.cells #[.slice none 0 0, .bool false, .slice none 0 0, .int .i64 0, .int .i64 0] 216))).alloc (.cells #[.int .i64 0, .int .i64 0, .slice none 0 0, .slice none 0 0, .slice none 0 0] 114)
 have HD4 := LH (Grow.heap hgl h2.1)
 have HD8 := LH (Grow.heap hgl h2.2.1)
 have HD9 := LH hz
 have hg0 := h2.2.2.grow hgl
 have HG := LH hg0
 have H := LH (h.grow hg0)
 have HA := LH ho
 have HOI := LH (followP_in (souOk_whole ho) seg at_)
 have HFW := LH (qfollow_calls a ho A c _ (h.grow hg0) seg at_)
 obtain ⟨c0, c1, c2, c3, c4, cf⟩ := cells5 HD4.out
 clear h ho h2 hsz2 hz hgl hg0
 replace E0 := LH (((E0.out.trans (if_pos hfe)).trans (if_neg hno)).trans (if_pos hc))
 go_enter Tryz.func142, Tryz.ntmps142
 go_wp2_with fail
 refine HFW.out.mono ?_
 rintro e w1 ⟨rfl, hg⟩
 generalize (followP (szs a) (wordA a) seg at_).1 = o at *
 generalize (followP (szs a) (wordA a) seg at_).2 = fe at *
 have hgo := (Keep.refl NoB w1).alloc (.cells #[.int .i64 o.kind, .int .i64 o.seg, .int .i64 o.at_, .int .i64 o.data, .int .i64 o.ptrs, .int .i64 o.size, .int .i64 o.count] 257)
 have HOB := LH (heap_alloc_new w1 (.cells #[.int .i64 o.kind, .int .i64 o.seg, .int .i64 o.at_, .int .i64 o.data, .int .i64 o.ptrs, .int .i64 o.size, .int .i64 o.count] 257))
 have hd9 := Grow.heap hg HD9.out
 have hlo : w.heap.size + 2 < w1.heap.size := (gE hd9).1
 have HLO := LH hlo
 replace HD4 := LH (Grow.heap (hg.grow hgo) HD4.out)
 replace HD8 := LH (Grow.heap (hg.grow hgo) HD8.out)
 replace HD9 := LH (Grow.heap hgo hd9)
 replace HG := LH (HG.out.grow (hg.grow hgo))
 replace H := LH (H.out.grow (hg.grow hgo))
 have hne1 : w1.heap.size ≠ w.heap.size := by omega
 have hne2 : w.heap.size ≠ w1.heap.size := by omega
 clear hg hgo hd9 hlo c0 c1 c2 c3 c4 cf HFW
 obtain ⟨c0, c1, c2, c3, c4, cf⟩ := cells5 HD4.out
 obtain ⟨o0, o1, o2, o3, o4, o5, o6, of⟩ := cells7 HOB.out
 have how := obWords_in HOI.out
 have hs1 : IntKind.i64.wrap (1 + obWords o) = 1 + obWords o := IntWalk.i64_in _ (by omega)
 have hs2 : IntKind.i64.wrap (paid + (1 + obWords o)) = paid + (1 + obWords o) := IntWalk.i64_in _ (by omega)
 have heb : (fe == 0) = true := by simpa using hfe
 have hkb : (o.kind != 0) = false := by simpa using hk
 have HER : Hid ((22 : Int) ≠ 0) := LH (by decide)
 clear hfe hl hk hno
 clear how
 go_wp2
 refine region_ord [0, 1, 2, 3, 4, 5, 6, 7] [3, 7] [1, 2] [7] rfl (by kernel_rfl) ?_
 refine ord_pure rfl rfl rfl rfl rfl (fun _ _ _ _ h => h) ?_ ?_ ?_ ?_ ?_
 rotate_left 2
 ·intro w'; go_simp; with_reducible rfl
 ·simp only [Act.put, pB, pC, pD]; rfl
 refine ord_read rfl rfl rfl rfl rfl (fun _ _ _ _ h => h) ?_ ?_ ?_ ?_ ?_
 rotate_left 2
 ·intro w' hg; have q := hg.cell c3 (fun h => h); go_simp; with_reducible rfl
 ·simp only [Act.put, pB, pC, pD]; rfl
 refine ord_read rfl rfl rfl rfl rfl (fun _ _ _ _ h => h) ?_ ?_ ?_ ?_ ?_
 rotate_left 2
 ·intro w' hg; have q0 := hg.cell o0 (fun h => h); have q1 := hg.cell o1 (fun h => h); have q2 := hg.cell o2 (fun h => h); have q3 := hg.cell o3 (fun h => h); have q4 := hg.cell o4 (fun h => h); have q5 := hg.cell o5 (fun h => h); have q6 := hg.cell o6 (fun h => h); go_simp; with_reducible rfl
 ·simp only [Act.put, pB, pC, pD]; rfl
 refine ord_call rfl rfl rfl rfl rfl Tryz.func174 rfl rfl [.agg #[.int .i64 o.kind, .int .i64 o.seg, .int .i64 o.at_, .int .i64 o.data, .int .i64 o.ptrs, .int .i64 o.size, .int .i64 o.count]] rfl ?_
 refine (show Calls Tryz.prog 174 #[.agg #[.int .i64 o.kind, .int .i64 o.seg, .int .i64 o.at_, .int .i64 o.data, .int .i64 o.ptrs, .int .i64 o.size, .int .i64 o.count]] _ (fun e w' => e = .returned (.int .i64 (obWords o)) ∧ Grow _ w') from qobwords_calls o _ HOI.out.ok).mono ?_
 rintro e w3 ⟨rfl, hg⟩
 refine ⟨_, rfl, fun _ => hg, ?_⟩
 have hgd : Grow (w1.alloc (.cells #[.int .i64 o.kind, .int .i64 o.seg, .int .i64 o.at_, .int .i64 o.data, .int .i64 o.ptrs, .int .i64 o.size, .int .i64 o.count] 257)) w3 := (Keep.refl NoB (w1.alloc (.cells #[.int .i64 o.kind, .int .i64 o.seg, .int .i64 o.at_, .int .i64 o.data, .int .i64 o.ptrs, .int .i64 o.size, .int .i64 o.count] 257))).drew.grow hg
 replace HD4 := LH (Grow.heap hgd HD4.out)
 replace HD8 := LH (Grow.heap hgd HD8.out)
 replace HD9 := LH (Grow.heap hgd HD9.out)
 replace HOB := LH (Grow.heap hgd HOB.out)
 replace HG := LH (HG.out.grow hgd)
 replace H := LH (H.out.grow hgd)
 clear hg hgd c0 c1 c2 c3 c4 cf o0 o1 o2 o3 o4 o5 o6 of
 simp only [Act.put, pB, pC, pD]
 iterate 3
  refine ord_pure rfl rfl rfl rfl rfl (fun _ _ _ _ h => h) ?_ ?_ ?_ ?_ ?_
  rotate_left 2
  ·intro w'; go_simp; with_reducible rfl
  ·simp only [Act.put, pB, pC, pD]; rfl
 obtain ⟨c0, c1, c2, c3, c4, cf⟩ := cells5 HD4.out
 refine ord_put rfl rfl rfl rfl ?_ ?_ (fun h => absurd (by simp) h) ?_
 rotate_left
 ·go_simp; with_reducible rfl
 refine ord_nil ?_
 have hk : Keep (fun j => j = w.heap.size) w3 (w3.setCell ⟨w.heap.size, 3, none⟩ (.int .i64 (paid + (1 + obWords o)))) := (Keep.refl (fun j => j = w.heap.size) w3).setCell (p := ⟨w.heap.size, 3, none⟩) (.inl rfl) _
 have hd4 : (w3.setCell ⟨w.heap.size, 3, none⟩ (.int .i64 (paid + (1 + obWords o)))).heap[w.heap.size]? = some (.cells #[.slice A a.length c, .bool false, .slice none 0 0, .int .i64 (paid + (1 + obWords o)), .int .i64 0] 216 (0, 0)) := by
  have h0 := HD4.out
  simp only [World.setCell, Array.getElem?_modify]
  simp [h0]
 replace HD8 := LH ((hk.block _ (gE HD8.out).1 (by omega)).trans HD8.out)
 replace HD9 := LH ((hk.block _ (gE HD9.out).1 (by omega)).trans HD9.out)
 replace HOB := LH ((hk.block _ (gE HOB.out).1 (by have := HLO.out; omega)).trans HOB.out)
 replace HG := LH (HG.out.setCell (p := ⟨w.heap.size, 3, none⟩) (.inr (Nat.le_refl _)) (.int .i64 (paid + (1 + obWords o))))
 replace HD4 := LH hd4
 clear hk hd4 c0 c1 c2 c3 c4 cf
 revert HD4 HD8 HD9 HOB HG
 generalize w3.setCell ⟨w.heap.size, 3, none⟩ (.int .i64 (paid + (1 + obWords o))) = w4
 intro HD8 HD9 HOB HG HD4
 obtain ⟨c0, c1, c2, c3, c4, cf⟩ := cells5 HD4.out
 have hd4 : (w4.setCell ⟨w.heap.size, 4, none⟩ (.int .i64 22)).heap[w.heap.size]? = some (.cells #[.slice A a.length c, .bool false, .slice none 0 0, .int .i64 (paid + (1 + obWords o)), .int .i64 22] 216 (0, 0)) := by
  have h0 := HD4.out
  simp only [World.setCell, Array.getElem?_modify]
  simp [h0]
 have hk : Keep (fun j => j = w.heap.size) w4 (w4.setCell ⟨w.heap.size, 4, none⟩ (.int .i64 22)) := (Keep.refl (fun j => j = w.heap.size) w4).setCell (p := ⟨w.heap.size, 4, none⟩) (.inl rfl) _
 have hd8 := (hk.block _ (gE HD8.out).1 (by omega)).trans HD8.out
 have hd9 := (hk.block _ (gE HD9.out).1 (by omega)).trans HD9.out
 have hg5 := HG.out.setCell (p := ⟨w.heap.size, 4, none⟩) (.inr (Nat.le_refl _)) (.int .i64 22)
 obtain ⟨x0, x1, x2, x3, x4, xf⟩ := cells5 hd4
 obtain ⟨y0, y1, y2, y3, y4, yf⟩ := cells5 hd8
 obtain ⟨hs6, hg6⟩ := stored5 (.slice A a.length c) (.bool false) (.slice none 0 0) (.int .i64 (paid + (1 + obWords o))) (.int .i64 22) hg5 (by omega) hd8
 have hk6 := keepN5 (c := (w4.setCell ⟨w.heap.size, 4, none⟩ (.int .i64 22))) (N := w.heap.size + 1) (.slice A a.length c) (.bool false) (.slice none 0 0) (.int .i64 (paid + (1 + obWords o))) (.int .i64 22)
 have hd96 := (hk6.block _ (gE hd9).1 (by omega)).trans hd9
 obtain ⟨z0, z1, z2, z3, z4, zf⟩ := cells5 hd96
 obtain ⟨hs7, hg7⟩ := stored5 (.int .i64 0) (.int .i64 0) (.slice none 0 0) (.slice none 0 0) (.slice none 0 0) hg6 (by omega) hd96
 have hk7 := keepN5 (c := ((((((w4.setCell ⟨w.heap.size, 4, none⟩ (.int .i64 22)).setCell ⟨w.heap.size + 1, 0, none⟩ (.slice A a.length c)).setCell ⟨w.heap.size + 1, 1, none⟩ (.bool false)).setCell ⟨w.heap.size + 1, 2, none⟩ (.slice none 0 0)).setCell ⟨w.heap.size + 1, 3, none⟩ (.int .i64 (paid + (1 + obWords o)))).setCell ⟨w.heap.size + 1, 4, none⟩ (.int .i64 22))) (N := w.heap.size + 2) (.int .i64 0) (.int .i64 0) (.slice none 0 0) (.slice none 0 0) (.slice none 0 0)
 have hs67 := (hk7.block _ (gE hs6).1 (by omega)).trans hs6
 have HR8 := LH hs67
 have HR9 := LH hs7
 have HGR := LH hg7
 clear hk hd4 hd8 hd9 hg5 hs6 hg6 hk6 hd96 hs7 hg7 hk7 hs67
 go_wp2
 clear x0 x1 x2 x3 x4 xf y0 y1 y2 y3 y4 yf z0 z1 z2 z3 z4 zf
 revert HR8 HR9 HGR
 generalize (((((((((((w4.setCell ⟨w.heap.size, 4, none⟩ (.int .i64 22)).setCell ⟨w.heap.size + 1, 0, none⟩ (.slice A a.length c)).setCell ⟨w.heap.size + 1, 1, none⟩ (.bool false)).setCell ⟨w.heap.size + 1, 2, none⟩ (.slice none 0 0)).setCell ⟨w.heap.size + 1, 3, none⟩ (.int .i64 (paid + (1 + obWords o)))).setCell ⟨w.heap.size + 1, 4, none⟩ (.int .i64 22)).setCell ⟨w.heap.size + 2, 0, none⟩ (.int .i64 0)).setCell ⟨w.heap.size + 2, 1, none⟩ (.int .i64 0)).setCell ⟨w.heap.size + 2, 2, none⟩ (.slice none 0 0)).setCell ⟨w.heap.size + 2, 3, none⟩ (.slice none 0 0)).setCell ⟨w.heap.size + 2, 4, none⟩ (.slice none 0 0)) = w7
 intro HR8 HR9 HGR
 obtain ⟨x0, x1, x2, x3, x4, xf⟩ := cells5 HR8.out
 obtain ⟨y0, y1, y2, y3, y4, yf⟩ := cells5 HR9.out
 refine bodyPost_ret (v := .tuple #[.agg #[.slice A a.length c, .bool false, .slice none 0 0, .int .i64 (paid + (1 + obWords o)), .int .i64 22], .agg #[.int .i64 0, .int .i64 0, .slice none 0 0, .slice none 0 0, .slice none 0 0]]) ?_ rfl ?_
 ·rw [results_cell2 rfl]; go_simp
 ·rw [E0.out]
  exact ⟨(paid + (1 + obWords o)), 0, 0, none, none, none, 0, 0, 0, 0, 0, 0, rfl, HGR.out, fun h => absurd h (by first | exact HER.out | simp)⟩
theorem qnode_cost1 (last : Bool) (f : Int → Int → Int → Tr × Int × Int) (a : List (List Int)) (ho : OkA a) (A : Option Addr) (c : Nat) (w : World) (h : RowsR .u64 a (.slice A a.length c) w) (seg at_ paid deep : Int) (p0 : 0 ≤ paid) (p1 : paid ≤ 8192) (hl : last = decide (32 ≤ deep)) (hfe : (followP (szs a) (wordA a) seg at_).2 = 0) (hno : ¬ ((followP (szs a) (wordA a) seg at_).1.kind ≠ 0 ∧ last = true)) (hk : (followP (szs a) (wordA a) seg at_).1.kind ≠ 0) (hd : ¬ (32 ≤ deep)) (hc : 8192 < paid + (1 + obWords (followP (szs a) (wordA a) seg at_).1)) :
    Calls Tryz.prog 142 #[.agg #[.slice A a.length c, .bool false, .slice none 0 0, .int .i64 paid, .int .i64 0], .int .i64 seg, .int .i64 at_, .int .i64 deep] w (QNPost A a.length c (nodeS (szs a) (wordA a) last f seg at_ paid) w) := by
 have E0 : Hid (nodeS (szs a) (wordA a) last f seg at_ paid = if (followP (szs a) (wordA a) seg at_).2 = 0 then if (followP (szs a) (wordA a) seg at_).1.kind ≠ 0 ∧ last = true then (tr0, 21, paid + (1 + obWords (followP (szs a) (wordA a) seg at_).1)) else if 8192 < paid + (1 + obWords (followP (szs a) (wordA a) seg at_).1) then (tr0, 22, paid + (1 + obWords (followP (szs a) (wordA a) seg at_).1)) else nodeT (wordA a) f (followP (szs a) (wordA a) seg at_).1 (paid + (1 + obWords (followP (szs a) (wordA a) seg at_).1)) else (tr0, (followP (szs a) (wordA a) seg at_).2, paid)) := LH rfl
 have h2 := heap_two w (.cells #[.slice A a.length c, .bool false, .slice none 0 0, .int .i64 paid, .int .i64 0] 216) (.cells #[.slice none 0 0, .bool false, .slice none 0 0, .int .i64 0, .int .i64 0] 216)
 have hsz2 : ((w.alloc (.cells #[.slice A a.length c, .bool false, .slice none 0 0, .int .i64 paid, .int .i64 0] 216)).alloc (.cells #[.slice none 0 0, .bool false, .slice none 0 0, .int .i64 0, .int .i64 0] 216)).heap.size = w.heap.size + 2 := by simp
 have hz := heap_alloc_new ((w.alloc (.cells #[.slice A a.length c, .bool false, .slice none 0 0, .int .i64 paid, .int .i64 0] 216)).alloc (.cells #[.slice none 0 0, .bool false, .slice none 0 0, .int .i64 0, .int .i64 0] 216)) (.cells #[.int .i64 0, .int .i64 0, .slice none 0 0, .slice none 0 0, .slice none 0 0] 114)
 rw [hsz2] at hz
 have hgl := (Keep.refl NoB ((w.alloc (.cells #[.slice A a.length c, .bool false, .slice none 0 0, .int .i64 paid, .int .i64 0] 216)).alloc (.cells #[.slice none 0 0, .bool false, .slice none 0 0, .int .i64 0, .int .i64 0] 216))).alloc (.cells #[.int .i64 0, .int .i64 0, .slice none 0 0, .slice none 0 0, .slice none 0 0] 114)
 have HD4 := LH (Grow.heap hgl h2.1)
 have HD8 := LH (Grow.heap hgl h2.2.1)
 have HD9 := LH hz
 have hg0 := h2.2.2.grow hgl
 have HG := LH hg0
 have H := LH (h.grow hg0)
 have HA := LH ho
 have HOI := LH (followP_in (souOk_whole ho) seg at_)
 have HFW := LH (qfollow_calls a ho A c _ (h.grow hg0) seg at_)
 obtain ⟨c0, c1, c2, c3, c4, cf⟩ := cells5 HD4.out
 clear h ho h2 hsz2 hz hgl hg0
 replace E0 := LH (((E0.out.trans (if_pos hfe)).trans (if_neg hno)).trans (if_pos hc))
 go_enter Tryz.func142, Tryz.ntmps142
 go_wp2_with fail
 refine HFW.out.mono ?_
 rintro e w1 ⟨rfl, hg⟩
 generalize (followP (szs a) (wordA a) seg at_).1 = o at *
 generalize (followP (szs a) (wordA a) seg at_).2 = fe at *
 have hgo := (Keep.refl NoB w1).alloc (.cells #[.int .i64 o.kind, .int .i64 o.seg, .int .i64 o.at_, .int .i64 o.data, .int .i64 o.ptrs, .int .i64 o.size, .int .i64 o.count] 257)
 have HOB := LH (heap_alloc_new w1 (.cells #[.int .i64 o.kind, .int .i64 o.seg, .int .i64 o.at_, .int .i64 o.data, .int .i64 o.ptrs, .int .i64 o.size, .int .i64 o.count] 257))
 have hd9 := Grow.heap hg HD9.out
 have hlo : w.heap.size + 2 < w1.heap.size := (gE hd9).1
 have HLO := LH hlo
 replace HD4 := LH (Grow.heap (hg.grow hgo) HD4.out)
 replace HD8 := LH (Grow.heap (hg.grow hgo) HD8.out)
 replace HD9 := LH (Grow.heap hgo hd9)
 replace HG := LH (HG.out.grow (hg.grow hgo))
 replace H := LH (H.out.grow (hg.grow hgo))
 have hne1 : w1.heap.size ≠ w.heap.size := by omega
 have hne2 : w.heap.size ≠ w1.heap.size := by omega
 clear hg hgo hd9 hlo c0 c1 c2 c3 c4 cf HFW
 obtain ⟨c0, c1, c2, c3, c4, cf⟩ := cells5 HD4.out
 obtain ⟨o0, o1, o2, o3, o4, o5, o6, of⟩ := cells7 HOB.out
 have how := obWords_in HOI.out
 have hs1 : IntKind.i64.wrap (1 + obWords o) = 1 + obWords o := IntWalk.i64_in _ (by omega)
 have hs2 : IntKind.i64.wrap (paid + (1 + obWords o)) = paid + (1 + obWords o) := IntWalk.i64_in _ (by omega)
 have heb : (fe == 0) = true := by simpa using hfe
 have hkb : (o.kind != 0) = true := by simpa using hk
 have HER : Hid ((22 : Int) ≠ 0) := LH (by decide)
 clear hfe hl hk hno
 clear how
 go_wp2
 refine region_ord [0, 1, 2, 3, 4, 5, 6, 7] [3, 7] [1, 2] [7] rfl (by kernel_rfl) ?_
 refine ord_pure rfl rfl rfl rfl rfl (fun _ _ _ _ h => h) ?_ ?_ ?_ ?_ ?_
 rotate_left 2
 ·intro w'; go_simp; with_reducible rfl
 ·simp only [Act.put, pB, pC, pD]; rfl
 refine ord_read rfl rfl rfl rfl rfl (fun _ _ _ _ h => h) ?_ ?_ ?_ ?_ ?_
 rotate_left 2
 ·intro w' hg; have q := hg.cell c3 (fun h => h); go_simp; with_reducible rfl
 ·simp only [Act.put, pB, pC, pD]; rfl
 refine ord_read rfl rfl rfl rfl rfl (fun _ _ _ _ h => h) ?_ ?_ ?_ ?_ ?_
 rotate_left 2
 ·intro w' hg; have q0 := hg.cell o0 (fun h => h); have q1 := hg.cell o1 (fun h => h); have q2 := hg.cell o2 (fun h => h); have q3 := hg.cell o3 (fun h => h); have q4 := hg.cell o4 (fun h => h); have q5 := hg.cell o5 (fun h => h); have q6 := hg.cell o6 (fun h => h); go_simp; with_reducible rfl
 ·simp only [Act.put, pB, pC, pD]; rfl
 refine ord_call rfl rfl rfl rfl rfl Tryz.func174 rfl rfl [.agg #[.int .i64 o.kind, .int .i64 o.seg, .int .i64 o.at_, .int .i64 o.data, .int .i64 o.ptrs, .int .i64 o.size, .int .i64 o.count]] rfl ?_
 refine (show Calls Tryz.prog 174 #[.agg #[.int .i64 o.kind, .int .i64 o.seg, .int .i64 o.at_, .int .i64 o.data, .int .i64 o.ptrs, .int .i64 o.size, .int .i64 o.count]] _ (fun e w' => e = .returned (.int .i64 (obWords o)) ∧ Grow _ w') from qobwords_calls o _ HOI.out.ok).mono ?_
 rintro e w3 ⟨rfl, hg⟩
 refine ⟨_, rfl, fun _ => hg, ?_⟩
 have hgd : Grow (w1.alloc (.cells #[.int .i64 o.kind, .int .i64 o.seg, .int .i64 o.at_, .int .i64 o.data, .int .i64 o.ptrs, .int .i64 o.size, .int .i64 o.count] 257)) w3 := (Keep.refl NoB (w1.alloc (.cells #[.int .i64 o.kind, .int .i64 o.seg, .int .i64 o.at_, .int .i64 o.data, .int .i64 o.ptrs, .int .i64 o.size, .int .i64 o.count] 257))).drew.grow hg
 replace HD4 := LH (Grow.heap hgd HD4.out)
 replace HD8 := LH (Grow.heap hgd HD8.out)
 replace HD9 := LH (Grow.heap hgd HD9.out)
 replace HOB := LH (Grow.heap hgd HOB.out)
 replace HG := LH (HG.out.grow hgd)
 replace H := LH (H.out.grow hgd)
 clear hg hgd c0 c1 c2 c3 c4 cf o0 o1 o2 o3 o4 o5 o6 of
 simp only [Act.put, pB, pC, pD]
 iterate 3
  refine ord_pure rfl rfl rfl rfl rfl (fun _ _ _ _ h => h) ?_ ?_ ?_ ?_ ?_
  rotate_left 2
  ·intro w'; go_simp; with_reducible rfl
  ·simp only [Act.put, pB, pC, pD]; rfl
 obtain ⟨c0, c1, c2, c3, c4, cf⟩ := cells5 HD4.out
 refine ord_put rfl rfl rfl rfl ?_ ?_ (fun h => absurd (by simp) h) ?_
 rotate_left
 ·go_simp; with_reducible rfl
 refine ord_nil ?_
 have hk : Keep (fun j => j = w.heap.size) w3 (w3.setCell ⟨w.heap.size, 3, none⟩ (.int .i64 (paid + (1 + obWords o)))) := (Keep.refl (fun j => j = w.heap.size) w3).setCell (p := ⟨w.heap.size, 3, none⟩) (.inl rfl) _
 have hd4 : (w3.setCell ⟨w.heap.size, 3, none⟩ (.int .i64 (paid + (1 + obWords o)))).heap[w.heap.size]? = some (.cells #[.slice A a.length c, .bool false, .slice none 0 0, .int .i64 (paid + (1 + obWords o)), .int .i64 0] 216 (0, 0)) := by
  have h0 := HD4.out
  simp only [World.setCell, Array.getElem?_modify]
  simp [h0]
 replace HD8 := LH ((hk.block _ (gE HD8.out).1 (by omega)).trans HD8.out)
 replace HD9 := LH ((hk.block _ (gE HD9.out).1 (by omega)).trans HD9.out)
 replace HOB := LH ((hk.block _ (gE HOB.out).1 (by have := HLO.out; omega)).trans HOB.out)
 replace HG := LH (HG.out.setCell (p := ⟨w.heap.size, 3, none⟩) (.inr (Nat.le_refl _)) (.int .i64 (paid + (1 + obWords o))))
 replace HD4 := LH hd4
 clear hk hd4 c0 c1 c2 c3 c4 cf
 revert HD4 HD8 HD9 HOB HG
 generalize w3.setCell ⟨w.heap.size, 3, none⟩ (.int .i64 (paid + (1 + obWords o))) = w4
 intro HD8 HD9 HOB HG HD4
 obtain ⟨c0, c1, c2, c3, c4, cf⟩ := cells5 HD4.out
 have hd4 : (w4.setCell ⟨w.heap.size, 4, none⟩ (.int .i64 22)).heap[w.heap.size]? = some (.cells #[.slice A a.length c, .bool false, .slice none 0 0, .int .i64 (paid + (1 + obWords o)), .int .i64 22] 216 (0, 0)) := by
  have h0 := HD4.out
  simp only [World.setCell, Array.getElem?_modify]
  simp [h0]
 have hk : Keep (fun j => j = w.heap.size) w4 (w4.setCell ⟨w.heap.size, 4, none⟩ (.int .i64 22)) := (Keep.refl (fun j => j = w.heap.size) w4).setCell (p := ⟨w.heap.size, 4, none⟩) (.inl rfl) _
 have hd8 := (hk.block _ (gE HD8.out).1 (by omega)).trans HD8.out
 have hd9 := (hk.block _ (gE HD9.out).1 (by omega)).trans HD9.out
 have hg5 := HG.out.setCell (p := ⟨w.heap.size, 4, none⟩) (.inr (Nat.le_refl _)) (.int .i64 22)
 obtain ⟨x0, x1, x2, x3, x4, xf⟩ := cells5 hd4
 obtain ⟨y0, y1, y2, y3, y4, yf⟩ := cells5 hd8
 obtain ⟨hs6, hg6⟩ := stored5 (.slice A a.length c) (.bool false) (.slice none 0 0) (.int .i64 (paid + (1 + obWords o))) (.int .i64 22) hg5 (by omega) hd8
 have hk6 := keepN5 (c := (w4.setCell ⟨w.heap.size, 4, none⟩ (.int .i64 22))) (N := w.heap.size + 1) (.slice A a.length c) (.bool false) (.slice none 0 0) (.int .i64 (paid + (1 + obWords o))) (.int .i64 22)
 have hd96 := (hk6.block _ (gE hd9).1 (by omega)).trans hd9
 obtain ⟨z0, z1, z2, z3, z4, zf⟩ := cells5 hd96
 obtain ⟨hs7, hg7⟩ := stored5 (.int .i64 0) (.int .i64 0) (.slice none 0 0) (.slice none 0 0) (.slice none 0 0) hg6 (by omega) hd96
 have hk7 := keepN5 (c := ((((((w4.setCell ⟨w.heap.size, 4, none⟩ (.int .i64 22)).setCell ⟨w.heap.size + 1, 0, none⟩ (.slice A a.length c)).setCell ⟨w.heap.size + 1, 1, none⟩ (.bool false)).setCell ⟨w.heap.size + 1, 2, none⟩ (.slice none 0 0)).setCell ⟨w.heap.size + 1, 3, none⟩ (.int .i64 (paid + (1 + obWords o)))).setCell ⟨w.heap.size + 1, 4, none⟩ (.int .i64 22))) (N := w.heap.size + 2) (.int .i64 0) (.int .i64 0) (.slice none 0 0) (.slice none 0 0) (.slice none 0 0)
 have hs67 := (hk7.block _ (gE hs6).1 (by omega)).trans hs6
 have HR8 := LH hs67
 have HR9 := LH hs7
 have HGR := LH hg7
 clear hk hd4 hd8 hd9 hg5 hs6 hg6 hk6 hd96 hs7 hg7 hk7 hs67
 go_wp2
 clear x0 x1 x2 x3 x4 xf y0 y1 y2 y3 y4 yf z0 z1 z2 z3 z4 zf
 revert HR8 HR9 HGR
 generalize (((((((((((w4.setCell ⟨w.heap.size, 4, none⟩ (.int .i64 22)).setCell ⟨w.heap.size + 1, 0, none⟩ (.slice A a.length c)).setCell ⟨w.heap.size + 1, 1, none⟩ (.bool false)).setCell ⟨w.heap.size + 1, 2, none⟩ (.slice none 0 0)).setCell ⟨w.heap.size + 1, 3, none⟩ (.int .i64 (paid + (1 + obWords o)))).setCell ⟨w.heap.size + 1, 4, none⟩ (.int .i64 22)).setCell ⟨w.heap.size + 2, 0, none⟩ (.int .i64 0)).setCell ⟨w.heap.size + 2, 1, none⟩ (.int .i64 0)).setCell ⟨w.heap.size + 2, 2, none⟩ (.slice none 0 0)).setCell ⟨w.heap.size + 2, 3, none⟩ (.slice none 0 0)).setCell ⟨w.heap.size + 2, 4, none⟩ (.slice none 0 0)) = w7
 intro HR8 HR9 HGR
 obtain ⟨x0, x1, x2, x3, x4, xf⟩ := cells5 HR8.out
 obtain ⟨y0, y1, y2, y3, y4, yf⟩ := cells5 HR9.out
 refine bodyPost_ret (v := .tuple #[.agg #[.slice A a.length c, .bool false, .slice none 0 0, .int .i64 (paid + (1 + obWords o)), .int .i64 22], .agg #[.int .i64 0, .int .i64 0, .slice none 0 0, .slice none 0 0, .slice none 0 0]]) ?_ rfl ?_
 ·rw [results_cell2 rfl]; go_simp
 ·rw [E0.out]
  exact ⟨(paid + (1 + obWords o)), 0, 0, none, none, none, 0, 0, 0, 0, 0, 0, rfl, HGR.out, fun h => absurd h (by first | exact HER.out | simp)⟩
def byteR (wd : Int → Int → Int × Int) (seg at_ : Int) (i : Nat) : Int := (wd seg (at_ + ((i / 8 : Nat) : Int))).1 / 2 ^ (8 * (i % 8)) % 256
theorem bytesQ_one (wd : Int → Int → Int × Int) (seg at_ : Int) (m : Nat) : bytesQ wd seg at_ (m + 1) = bytesQ wd seg at_ m ++ putB (wd seg (at_ + m)).1 8 := by
 simp [bytesQ, wordsP, List.range_succ]
theorem bytesQ_get (wd : Int → Int → Int × Int) (seg at_ : Int) : ∀ (m i : Nat), i < m * 8 → (bytesQ wd seg at_ m)[i]? = some (byteR wd seg at_ i)
 | 0, i, h => by omega
 | m + 1, i, h => by
  rw [bytesQ_one]
  by_cases hi : i < m * 8
  ·rw [List.getElem?_append_left (by rw [bytesQ_length]; exact hi)]
   exact bytesQ_get wd seg at_ m i hi
  ·rw [List.getElem?_append_right (by rw [bytesQ_length]; omega), bytesQ_length]
   unfold putB byteR
   rw [List.getElem?_map, List.getElem?_range (by omega)]
   have e1 : i / 8 = m := by omega
   have e2 : i % 8 = i - m * 8 := by omega
   rw [e1, e2]
   rfl
theorem bytesP_eq (wd : Int → Int → Int × Int) (seg at_ : Int) (n : Nat) : bytesP wd seg at_ n = (List.range n).map (byteR wd seg at_) := by
 apply List.ext_getElem?
 intro i
 unfold bytesP
 rw [List.getElem?_take, List.getElem?_map]
 by_cases h : i < n
 ·rw [if_pos h, bytesQ_get _ _ _ _ _ (by omega), List.getElem?_range h]
  rfl
 ·rw [if_neg h, List.getElem?_eq_none (by simp; omega)]
  rfl
theorem bytesP_one (wd : Int → Int → Int × Int) (seg at_ : Int) (n : Nat) : u8s (bytesP wd seg at_ (n + 1)) = u8s (bytesP wd seg at_ n) ++ [.int .u8 (byteR wd seg at_ n)] := by
 rw [bytesP_eq, bytesP_eq]
 simp [u8s, List.range_succ]
end Go.Proofs.YtfkcpaahdlkcdaaGreat

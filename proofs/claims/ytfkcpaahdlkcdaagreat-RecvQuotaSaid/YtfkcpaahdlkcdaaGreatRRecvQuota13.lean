import Derived.Test.YtfkcpaahdlkcdaaGreatRRecvQuota07
import Derived.Test.YtfkcpaahdlkcdaaGreatRRecvQuota12
set_option linter.unusedSimpArgs false
set_option linter.unusedVariables false
set_option maxRecDepth 100000
set_option maxHeartbeats 16000000
namespace Go.Proofs.YtfkcpaahdlkcdaaGreat
open Go.RowKit
theorem tree4_ne (x : Int) (l : List Int) (ad : Addr) (n c : Nat) (deep : Nat) (v w : World) (hv : Grow v w) (h : SliceR 1 (.slice (some ad) n c) n (u8s (x :: l)) v) (hn : n = l.length + 1) (hl : l.length ≤ 1000000) (hx : 0 ≤ x ∧ x ≤ 255) (hu : okU l) (hd : deep ≠ 0) (hc1 : ¬ (c = 1)) (d : Nat) (hde : (deep : Int) - 1 = d) (hdl : deep ≤ 1000) (IH : Hid (TreeAt d)) (q : Nat) (hqq : (q : Int) = x / 8 % 5) (hm : 4 ≤ x % 8 ∧ x % 8 ≤ 6) (m : Nat) (hmm : (m : Int) = x / 64) :
    Calls Tryz.prog 56 #[(.slice (some ad) n c), .int .i64 deep] w (TreePost deep (l.length + 1) l.length v w) := by
 have HV := LH hv
 have HD0 := LH hd
 have HT := LH (h.tail2 hn hc1)
 have hcell0 : v.cell? ad = some (.int .u8 x) := by
  obtain ⟨A9, c9, e9, _, _, _, hq⟩ := h
  injection e9 with e9 _ _
  obtain ⟨a9, e8, hc⟩ := hq 0 (.int .u8 x) rfl
  rw [← e9] at e8
  injection e8 with e8
  subst e8
  rw [Addr.add_zero'] at hc
  exact hc
 have hcell := hv.cell hcell0 (fun h => h)
 clear hcell0 hv
 have hc : n ≤ c := by
  obtain ⟨_, _, e, h2, _⟩ := h
  injection e with _ e2 e3
  omega
 have hq : (((n : Nat) : Int) == 0) = false := beq_eq_false_iff_ne.2 (by omega)
 have hn1 : (1 : Int) ≤ n := by omega
 have hn0 : (0 : Int) < n := by omega
 have HN2 := LH hn
 have HLN : Hid (n - 1 = l.length) := LH (by omega)
 have hdq : (((deep : Nat) : Int) == 0) = false := beq_eq_false_iff_ne.2 (by omega)
 have hmb : (x % 8 == 0) = false := beq_eq_false_iff_ne.2 (by omega)
 have hm1 : (x % 8 == 1) = false := beq_eq_false_iff_ne.2 (by omega)
 have hm2 : (x % 8 == 2) = false := beq_eq_false_iff_ne.2 (by omega)
 have hm3 : (x % 8 == 3) = false := beq_eq_false_iff_ne.2 (by omega)
 have hm6 : ¬ (6 < x % 8) := by omega
 have HMM := LH hmm
 have HQQ := LH hqq
 have hm9 : m ≤ 20 := by omega
 have hq9 : q ≤ 4 := by omega
 have HU : Hid (okU l ∧ l.length ≤ 1000000) := LH ⟨hu, by omega⟩
 have HDE := LH (And.intro hde hdl)
 have hga := (Keep.refl NoB w).alloc (.cells #[.int .i64 0, .int .i64 0, .slice none 0 0, .slice none 0 0, .slice none 0 0] 114)
 have hgb := hga.alloc (.cells #[.int .i64 0, .int .i64 0, .slice none 0 0, .slice none 0 0, .slice none 0 0] 114)
 have hcell2 := hga.cell hcell (fun h => h)
 have HX : Hid (0 ≤ x ∧ x ≤ 255) := LH hx
 obtain ⟨hx1, hx2⟩ := hx
 have HN9 := LH hn
 clear h hm hmm hqq hd hn hcell hga hgb hu hde hdl
 go_enter Tryz.func56, Tryz.ntmps56
 go_wp2_with fail
 have hy1 : 0 ≤ x / 8 % 5 := by omega
 have hy2 : x / 8 % 5 ≤ 4 := by omega
 have hz1 : 0 ≤ x / 64 := by omega
 have hz2 : x / 64 ≤ 3 := by omega
 go_loopw [11] (fun v wr => ∃ k : Nat, k ≤ m ∧ v = .int .i64 k ∧ ∃ A4 c4, wr.heap[w.heap.size]? = some (.cells #[.int .i64 0, .int .i64 0, .slice none 0 0, .slice none 0 0, .slice none 0 0] 114 (0, 0)) ∧ wr.heap[w.heap.size + 1]? = some (.cells #[.int .i64 1, .int .i64 0, .slice A4 k c4, .slice none 0 0, .slice none 0 0] 114 (0, 0)) ∧ Hid (Grow w wr ∧ w.heap.size + 2 ≤ wr.heap.size ∧ wr.ownsRow (w.heap.size + 2) 22 1 (.slice A4 k c4) k (u64s (wdsK x k)))) (fun v _ => m - (intOf v).toNat)
 case atStart => exact ⟨0, by omega, rfl, none, 0, (two_alloc w _ _).1, (two_alloc w _ _).2.1, ((Keep.refl NoB w).alloc _).alloc _, Nat.le_of_eq (two_alloc w _ _).2.2.symm, World.ownsRow_nil _ (w.heap.size + 2) 22 1⟩
 case round =>
  obtain ⟨k, hk, rfl, A4, c4, hb4, hb7, HS⟩ := hrel
  have hwb : IntKind.i64.wrap (x / 8 % 5) = x / 8 % 5 := IntWalk.i64_in _ (by omega)
  have hwc : IntKind.i64.wrap (x / 64) = x / 64 := IntWalk.i64_in _ (by omega)
  have hd0 : wr.cell? ⟨w.heap.size + 1, 0, none⟩ = _ := World.news_of_block hb7 0 _ rfl
  have hd1 : wr.cell? ⟨w.heap.size + 1, 1, none⟩ = _ := World.news_of_block hb7 1 _ rfl
  have hd2 : wr.cell? ⟨w.heap.size + 1, 2, none⟩ = _ := World.news_of_block hb7 2 _ rfl
  have hd3 : wr.cell? ⟨w.heap.size + 1, 3, none⟩ = _ := World.news_of_block hb7 3 _ rfl
  have hd4 : wr.cell? ⟨w.heap.size + 1, 4, none⟩ = _ := World.news_of_block hb7 4 _ rfl
  by_cases hlt : k < m
  ·have hw : IntKind.i64.wrap ((k : Int) + 1) = (k : Int) + 1 := IntWalk.i64_in _ (by omega)
   have hw8 : IntKind.i64.wrap (8 * (k : Int)) = 8 * (k : Int) := IntWalk.i64_in _ (by omega)
   have hw9 : IntKind.u64.wrap (8 * (k : Int)) = 8 * (k : Int) := IntWalk.u64_in _ (by omega)
   have hlt' : (k : Int) < x / 64 := by have := HMM.out; omega
   have hk9 : (k : Int) ≤ 255 := by omega
   have E1 := LH (wdsK_succ x k)
   go_wp2_with (at_builtin; refine wpList_app _ rfl _ _ 111 111 rfl (w.heap.size + 2) 22 (.int .u64 0) 1 8 u_u64s info_u64 rfl (.slice A4 k c4) k (u64s (wdsK x k)) rfl (.slice (some ⟨wr.heap.size, 0, none⟩) 1 1) 1 [.int .u64 (IntKind.u64.wrap (IntKind.u64.wrap (x * 2 ^ (8 * k)) + k))] rfl ?_ (by exact own_keep HS.out.2.2 ((Keep.refl NoB wr).alloc _) (fun _ _ h => h)) (by exact Src.ofSlice _ u_u64s ⟨wr.heap.size, 0, none⟩ 1 1 _ rfl (World.news_of_block (cs := #[.int .u64 (IntKind.u64.wrap (IntKind.u64.wrap (x * 2 ^ (8 * k)) + k))]) (t := 22) (fr := (0, 0)) (heap_alloc_new wr _)) (by simp [Value.oneCell'])) (by simp only [maxLen]; omega) (by omega) (by have := HS.out.2.1; simp; omega); intro v3 w3 hap; refine Hid.out ?_)
   refine LH ?_
   have Hg3 : Hid (Grow w w3 ∧ w.heap.size + 2 ≤ w3.heap.size) := ⟨((((HS.out.1.mono (T := fun k => w.heap.size + 2 ≤ k) (fun _ h => h.elim)).alloc _).grown hap.grew (fun k hk => .inl (HS.out.2.2.lt k hk).1))).new (fun _ h => by omega), by have h1 := HS.out.2.1; have h2 := hap.grew.size; simp at h2; omega⟩
   have HK := ((Keep.refl (fun k => w.heap.size + 2 ≤ k) wr).alloc (.cells #[.int .u64 (IntKind.u64.wrap (IntKind.u64.wrap (x * 2 ^ (8 * k)) + k))] 22)).grown hap.grew (fun k hk => .inl (HS.out.2.2.lt k hk).1)
   have hs2 := HS.out.2.1
   have hc4 := (HK.block w.heap.size (by omega) (by omega)).trans hb4
   have hc7 := (HK.block (w.heap.size + 1) (by omega) (by omega)).trans hb7
   have Ho3 := LH hap.own
   obtain ⟨A6, c6, rfl, _⟩ := own_slice hap.own
   have hlb : ∀ q, (Value.slice A6 (k + 1) c6).ownBlock = some q → w.heap.size + 2 ≤ q := fun q hq => (hap.own.lt q hq).1
   clear hap HK
   rw [← E1.out] at Ho3
   have hd3' : w3.cell? ⟨w.heap.size + 1, 2, none⟩ = _ := World.news_of_block hc7 2 _ rfl
   have hfr : ∀ o, w3.frozen? ⟨w.heap.size + 1, o, none⟩ = false := fun o => frozen0 o hc7
   have Hc := LH hc4
   have Hc' := LH hc7
   have Hlb := LH hlb
   clear hd0 hd1 hd2 hd3 hd4 hb4 hb7 hc4 hc7 hlb
   go_wp2
   go_roundw
   case rel =>
    have hkk : Keep (fun q => q = w.heap.size + 1) w3 (w3.setCell ⟨w.heap.size + 1, 2, none⟩ (.slice A6 (k + 1) c6)) := (Keep.refl (fun q => q = w.heap.size + 1) w3).setCell (p := ⟨w.heap.size + 1, 2, none⟩) (.inl rfl) _
    refine ⟨k + 1, by omega, by go_num, A6, c6, (hkk.block w.heap.size (by have := Hg3.out.2; omega) (by simp)).trans Hc.out, ?_, Hg3.out.1.setCell (.inr (by simp)) _, Nat.le_trans Hg3.out.2 hkk.size, own_keep Ho3.out hkk (fun q hq => by have := Hlb.out q hq; omega)⟩
    have hq := Hc'.out
    simp only [World.setCell, Array.getElem?_modify]
    simp [hq]
   case measure => simp [intOf]; omega
  obtain rfl : k = m := by omega
  have hlt' : ¬ ((k : Int) < x / 64) := by have := HMM.out; omega
  have HK0 : Hid (TK d l.length v w 1 0 (wdsK x k) (.slice A4 k c4) 0 (.slice none 0 0) [] l (some ⟨ad.block, ad.off + 1, none⟩) (c - 1) wr) := LH (TK.begin hb4 hb7 HS.out.1 (by rw [wdsK_length]; exact HS.out.2.2) (by have := HT.out; rw [HLN.out] at this; exact this) (Nat.le_refl _) HU.out.1)
  clear hb4 HS
  go_wp2_with fail
  clear hd0 hd1 hd2 hd3 hd4 hb7
  go_loopw [0, 12, 13, 14] (fun v0 v12 v13 v14 wr => ∃ (j : Nat) (lj : List Int) (A0 : Option Addr) (c0 : Nat) (A5 : Option Addr) (c5 : Nat) (rows : List (Tr × Value × Value × Value)), j ≤ q ∧ v12 = .int .i64 j ∧ v0 = .slice A0 lj.length c0 ∧ Hid (TK d l.length v w 1 0 (wdsK x k) (.slice A4 k c4) j (.slice A5 j c5) rows lj A0 c0 wr)) (fun _ v12 _ _ _ => q - (intOf v12).toNat)
  case atStart => exact ⟨0, l, (some ⟨ad.block, ad.off + 1, none⟩), (c - 1), none, 0, [], by omega, rfl, (by rw [HLN.out]), HK0⟩
  case round =>
   clear HK0
   obtain ⟨j, lj, A0, c0, A5, c5, rows, hj, rfl, rfl, HK⟩ := hrel
   obtain ⟨n0, n1, n2, n3, n4, nf⟩ := cells5 HK.out.nod
   by_cases hjt : j < q
   ·have hjt' : (j : Int) < x / 8 % 5 := by have := HQQ.out; omega
    have hwj : IntKind.i64.wrap ((j : Int) + 1) = (j : Int) + 1 := IntWalk.i64_in _ (by omega)
    have hwd : IntKind.i64.wrap ((deep : Int) - 1) = d := by rw [HDE.out.1]; exact IntWalk.i64_in _ (by have := HDE.out.1; have := HDE.out.2; omega)
    go_wp2_with fail
    refine (IH.out lj A0 c0 v wr (HV.out.grow HK.out.keep) HK.out.left (Nat.le_trans HK.out.le HU.out.2) HK.out.okl).mono ?_
    rintro e w4 ⟨t, B1, B2, B3, d1, d2, d3, l2, A2, c2, rfl, hg4, hf4, htn, htb, hl4, hle4, hok4, hsm4⟩
    have HM := LH (HK.out.called hg4 hf4)
    have HL := LH (And.intro hl4 (And.intro (Nat.le_trans hle4 HK.out.le) hok4))
    have HT2 := LH (And.intro htn htb)
    have HSM4 := LH hsm4
    clear hg4 hf4 htn htb hl4 hle4 hok4 hsm4 n0 n1 n2 n3 n4 nf
    have hga := (Keep.refl NoB w4).alloc (.cells #[.int .i64 t.kind, .int .i64 t.size, .slice B1 t.ws.length d1, .slice B2 t.bs.length d2, .slice B3 t.kids.length d3] 114)
    have hna := heap_alloc_new w4 (.cells #[.int .i64 t.kind, .int .i64 t.size, .slice B1 t.ws.length d1, .slice B2 t.bs.length d2, .slice B3 t.kids.length d3] 114)
    replace HM := LH (HM.out.grow hga)
    have HNA := LH hna
    clear hga hna
    obtain ⟨t0, t1, t2, t3, t4, tf⟩ := cells5 HNA.out
    obtain ⟨n0, n1, n2, n3, n4, nf⟩ := cells5 HM.out.nod
    have HSRC : Hid (((w4.alloc (.cells #[.int .i64 t.kind, .int .i64 t.size, .slice B1 t.ws.length d1, .slice B2 t.bs.length d2, .slice B3 t.kids.length d3] 114)).alloc (.cells #[.int .i64 t.kind, .int .i64 t.size, .slice B1 t.ws.length d1, .slice B2 t.bs.length d2, .slice B3 t.kids.length d3] 114)).heap[w4.heap.size + 1]? = some (.cells #[.int .i64 t.kind, .int .i64 t.size, .slice B1 t.ws.length d1, .slice B2 t.bs.length d2, .slice B3 t.kids.length d3] 114 (0, 0))) := LH (two_alloc w4 _ _).2.1
    have HSZ : Hid (w.heap.size + 2 ≤ ((w4.alloc (.cells #[.int .i64 t.kind, .int .i64 t.size, .slice B1 t.ws.length d1, .slice B2 t.bs.length d2, .slice B3 t.kids.length d3] 114)).alloc (.cells #[.int .i64 t.kind, .int .i64 t.size, .slice B1 t.ws.length d1, .slice B2 t.bs.length d2, .slice B3 t.kids.length d3] 114)).heap.size) := LH (by have := (gE HM.out.nod).1; simp at this ⊢; omega)
    go_wp2_with (at_builtin; refine wpList_app _ rfl _ _ 112 112 rfl (w.heap.size + 2) 114 (.agg #[.int .i64 0, .int .i64 0, .slice none 0 0, .slice none 0 0, .slice none 0 0]) 5 88 u_nodes info_node rfl (.slice A5 j c5) j (kcs rows) rfl (.slice (some ⟨w4.heap.size + 1, 0, none⟩) 1 1) 1 [.int .i64 t.kind, .int .i64 t.size, .slice B1 t.ws.length d1, .slice B2 t.bs.length d2, .slice B3 t.kids.length d3] rfl ?_ (by exact own_keep HM.out.own ((Keep.refl NoB _).alloc _) (fun _ _ h => h)) (by exact Src.ofSlice _ u_nodes ⟨w4.heap.size + 1, 0, none⟩ 1 1 _ rfl (World.news_of_block (cs := #[.int .i64 t.kind, .int .i64 t.size, .slice B1 t.ws.length d1, .slice B2 t.bs.length d2, .slice B3 t.kids.length d3]) (t := 114) (fr := (0, 0)) HSRC.out) (by simp [Value.oneCell'])) (by simp only [maxLen]; omega) (by omega) (by exact HSZ.out); intro v5 w5 hap; refine Hid.out ?_)
    refine LH ?_
    replace HM := LH (HM.out.grow ((Keep.refl NoB _).alloc (.cells #[.int .i64 t.kind, .int .i64 t.size, .slice B1 t.ws.length d1, .slice B2 t.bs.length d2, .slice B3 t.kids.length d3] 114)))
    have hfin := HM.out.appended (kid := (t, .slice B1 t.ws.length d1, .slice B2 t.bs.length d2, .slice B3 t.kids.length d3)) hap HK.out.len (fun x hx => by
     rcases List.mem_append.1 hx with e | e
     ·exact HK.out.ok x e
     ·rw [List.mem_singleton.1 e]; exact HT2.out) HL.out.1 HL.out.2.1 HL.out.2.2 (fun m9 h9 => ⟨fun x hx => by
     rcases List.mem_append.1 hx with e | e
     ·exact (HK.out.sm m9 h9).1 x e
     ·rw [List.mem_singleton.1 e]; exact (HSM4.out m9 h9).1, by
     have e1 := (HK.out.sm m9 h9).2
     have e2 := (HSM4.out m9 h9).2
     rw [List.map_append, List.sum_append]
     simp only [List.map_cons, List.map_nil, List.sum_cons, List.sum_nil]
     omega⟩)
    obtain ⟨A6, c6, rfl, _⟩ := own_slice hap.own
    have HF := LH hfin.1
    clear n0 n1 n2 n3 n4 nf t0 t1 t2 t3 t4 tf hap
    obtain ⟨n0, n1, n2, n3, n4, nf⟩ := cells5 hfin.2
    clear hfin
    go_wp2
    go_roundw
    case rel => exact ⟨j + 1, l2, A2, c2, A6, c6, _, by omega, by go_num, rfl, HF⟩
    case measure => simp [intOf]; omega
   ·obtain rfl : j = q := by omega
    have hjt' : ¬ ((j : Int) < x / 8 % 5) := by have := HQQ.out; omega
    obtain ⟨hf0, hf1, hf2, hf3, hf4, hfr⟩ := cells5 HK.out.res
    obtain ⟨hw5, -⟩ := stored5 (.int .i64 1) (.int .i64 0) (.slice A4 k c4) (.slice none 0 0) (.slice A5 j c5) HK.out.keep (Nat.le_refl _) HK.out.res
    have HW5 := LH hw5
    have HP : Hid (TreePost deep (l.length + 1) l.length v w (.returned (.tuple #[.agg #[.int .i64 1, .int .i64 0, .slice A4 k c4, .slice none 0 0, .slice A5 j c5], .slice A0 lj.length c0])) (((((wr.setCell ⟨w.heap.size, 0, none⟩ (.int .i64 1)).setCell ⟨w.heap.size, 1, none⟩ (.int .i64 0)).setCell ⟨w.heap.size, 2, none⟩ (.slice A4 k c4)).setCell ⟨w.heap.size, 3, none⟩ (.slice none 0 0)).setCell ⟨w.heap.size, 4, none⟩ (.slice A5 j c5))) :=
     LH (HK.out.post (by have := HDE.out.1; omega) (by rw [wdsK_length]; simp [ownB]; have := HMM.out; omega) (by rw [wdsK_length]; simp [needN]; have := HMM.out; omega) (wdsK_length x k) (keepN5 _ _ _ _ _) (by rw [wdsK_length]; omega) (wdsK_num x k) (by omega))
    clear hw5
    go_wp2
    revert HW5 HP
    generalize (((((wr.setCell ⟨w.heap.size, 0, none⟩ (.int .i64 1)).setCell ⟨w.heap.size, 1, none⟩ (.int .i64 0)).setCell ⟨w.heap.size, 2, none⟩ (.slice A4 k c4)).setCell ⟨w.heap.size, 3, none⟩ (.slice none 0 0)).setCell ⟨w.heap.size, 4, none⟩ (.slice A5 j c5)) = w5
    intro HW5 HP
    obtain ⟨hf0, hf1, hf2, hf3, hf4, hfr⟩ := cells5 HW5.out
    refine bodyPost_ret (v := .tuple #[.agg #[.int .i64 1, .int .i64 0, .slice A4 k c4, .slice none 0 0, .slice A5 j c5], .slice A0 lj.length c0]) ?_ rfl HP.out
    rw [results_cell_tmp rfl]; go_simp
theorem tree4_eq (x : Int) (ad : Addr) (deep : Nat) (v w : World) (hv : Grow v w) (h : SliceR 1 (.slice (some ad) 1 1) 1 (u8s [x]) v) (hx : 0 ≤ x ∧ x ≤ 255) (hd : deep ≠ 0) (d : Nat) (hde : (deep : Int) - 1 = d) (hdl : deep ≤ 1000) (IH : Hid (TreeAt d)) (q : Nat) (hqq : (q : Int) = x / 8 % 5) (hm : 4 ≤ x % 8 ∧ x % 8 ≤ 6) (m : Nat) (hmm : (m : Int) = x / 64) :
    Calls Tryz.prog 56 #[(.slice (some ad) 1 1), .int .i64 deep] w (TreePost deep (([] : List Int).length + 1) ([] : List Int).length v w) := by
 have HV := LH hv
 have HD0 := LH hd
 have HT : Hid (SliceR 1 (.slice (some ad) 0 0) 0 (u8s []) v) := LH ⟨some ad, 0, rfl, Nat.le_refl _, by simp [u8s], fun _ => rfl, fun j u hu => by simp [u8s] at hu⟩
 have hcell0 : v.cell? ad = some (.int .u8 x) := by
  obtain ⟨A9, c9, e9, _, _, _, hq⟩ := h
  injection e9 with e9 _ _
  obtain ⟨a9, e8, hc⟩ := hq 0 (.int .u8 x) rfl
  rw [← e9] at e8
  injection e8 with e8
  subst e8
  rw [Addr.add_zero'] at hc
  exact hc
 have hcell := hv.cell hcell0 (fun h => h)
 clear hcell0 hv
 have hu : okU [] := fun y hy => by cases hy
 have hn : 0 = ([] : List Int).length := rfl
 have hdq : (((deep : Nat) : Int) == 0) = false := beq_eq_false_iff_ne.2 (by omega)
 have hmb : (x % 8 == 0) = false := beq_eq_false_iff_ne.2 (by omega)
 have hm1 : (x % 8 == 1) = false := beq_eq_false_iff_ne.2 (by omega)
 have hm2 : (x % 8 == 2) = false := beq_eq_false_iff_ne.2 (by omega)
 have hm3 : (x % 8 == 3) = false := beq_eq_false_iff_ne.2 (by omega)
 have hm6 : ¬ (6 < x % 8) := by omega
 have HMM := LH hmm
 have HQQ := LH hqq
 have hm9 : m ≤ 20 := by omega
 have hq9 : q ≤ 4 := by omega
 have HU : Hid (okU ([] : List Int) ∧ ([] : List Int).length ≤ 1000000) := LH ⟨hu, by simp⟩
 have HDE := LH (And.intro hde hdl)
 have hga := (Keep.refl NoB w).alloc (.cells #[.int .i64 0, .int .i64 0, .slice none 0 0, .slice none 0 0, .slice none 0 0] 114)
 have hgb := hga.alloc (.cells #[.int .i64 0, .int .i64 0, .slice none 0 0, .slice none 0 0, .slice none 0 0] 114)
 have hcell2 := hga.cell hcell (fun h => h)
 have HX : Hid (0 ≤ x ∧ x ≤ 255) := LH hx
 obtain ⟨hx1, hx2⟩ := hx
 have HN9 := LH hn
 clear h hm hmm hqq hd hn hcell hga hgb hu hde hdl
 go_enter Tryz.func56, Tryz.ntmps56
 go_wp2_with fail
 have hy1 : 0 ≤ x / 8 % 5 := by omega
 have hy2 : x / 8 % 5 ≤ 4 := by omega
 have hz1 : 0 ≤ x / 64 := by omega
 have hz2 : x / 64 ≤ 3 := by omega
 go_loopw [11] (fun v wr => ∃ k : Nat, k ≤ m ∧ v = .int .i64 k ∧ ∃ A4 c4, wr.heap[w.heap.size]? = some (.cells #[.int .i64 0, .int .i64 0, .slice none 0 0, .slice none 0 0, .slice none 0 0] 114 (0, 0)) ∧ wr.heap[w.heap.size + 1]? = some (.cells #[.int .i64 1, .int .i64 0, .slice A4 k c4, .slice none 0 0, .slice none 0 0] 114 (0, 0)) ∧ Hid (Grow w wr ∧ w.heap.size + 2 ≤ wr.heap.size ∧ wr.ownsRow (w.heap.size + 2) 22 1 (.slice A4 k c4) k (u64s (wdsK x k)))) (fun v _ => m - (intOf v).toNat)
 case atStart => exact ⟨0, by omega, rfl, none, 0, (two_alloc w _ _).1, (two_alloc w _ _).2.1, ((Keep.refl NoB w).alloc _).alloc _, Nat.le_of_eq (two_alloc w _ _).2.2.symm, World.ownsRow_nil _ (w.heap.size + 2) 22 1⟩
 case round =>
  obtain ⟨k, hk, rfl, A4, c4, hb4, hb7, HS⟩ := hrel
  have hwb : IntKind.i64.wrap (x / 8 % 5) = x / 8 % 5 := IntWalk.i64_in _ (by omega)
  have hwc : IntKind.i64.wrap (x / 64) = x / 64 := IntWalk.i64_in _ (by omega)
  have hd0 : wr.cell? ⟨w.heap.size + 1, 0, none⟩ = _ := World.news_of_block hb7 0 _ rfl
  have hd1 : wr.cell? ⟨w.heap.size + 1, 1, none⟩ = _ := World.news_of_block hb7 1 _ rfl
  have hd2 : wr.cell? ⟨w.heap.size + 1, 2, none⟩ = _ := World.news_of_block hb7 2 _ rfl
  have hd3 : wr.cell? ⟨w.heap.size + 1, 3, none⟩ = _ := World.news_of_block hb7 3 _ rfl
  have hd4 : wr.cell? ⟨w.heap.size + 1, 4, none⟩ = _ := World.news_of_block hb7 4 _ rfl
  by_cases hlt : k < m
  ·have hw : IntKind.i64.wrap ((k : Int) + 1) = (k : Int) + 1 := IntWalk.i64_in _ (by omega)
   have hw8 : IntKind.i64.wrap (8 * (k : Int)) = 8 * (k : Int) := IntWalk.i64_in _ (by omega)
   have hw9 : IntKind.u64.wrap (8 * (k : Int)) = 8 * (k : Int) := IntWalk.u64_in _ (by omega)
   have hlt' : (k : Int) < x / 64 := by have := HMM.out; omega
   have hk9 : (k : Int) ≤ 255 := by omega
   have E1 := LH (wdsK_succ x k)
   go_wp2_with (at_builtin; refine wpList_app _ rfl _ _ 111 111 rfl (w.heap.size + 2) 22 (.int .u64 0) 1 8 u_u64s info_u64 rfl (.slice A4 k c4) k (u64s (wdsK x k)) rfl (.slice (some ⟨wr.heap.size, 0, none⟩) 1 1) 1 [.int .u64 (IntKind.u64.wrap (IntKind.u64.wrap (x * 2 ^ (8 * k)) + k))] rfl ?_ (by exact own_keep HS.out.2.2 ((Keep.refl NoB wr).alloc _) (fun _ _ h => h)) (by exact Src.ofSlice _ u_u64s ⟨wr.heap.size, 0, none⟩ 1 1 _ rfl (World.news_of_block (cs := #[.int .u64 (IntKind.u64.wrap (IntKind.u64.wrap (x * 2 ^ (8 * k)) + k))]) (t := 22) (fr := (0, 0)) (heap_alloc_new wr _)) (by simp [Value.oneCell'])) (by simp only [maxLen]; omega) (by omega) (by have := HS.out.2.1; simp; omega); intro v3 w3 hap; refine Hid.out ?_)
   refine LH ?_
   have Hg3 : Hid (Grow w w3 ∧ w.heap.size + 2 ≤ w3.heap.size) := ⟨((((HS.out.1.mono (T := fun k => w.heap.size + 2 ≤ k) (fun _ h => h.elim)).alloc _).grown hap.grew (fun k hk => .inl (HS.out.2.2.lt k hk).1))).new (fun _ h => by omega), by have h1 := HS.out.2.1; have h2 := hap.grew.size; simp at h2; omega⟩
   have HK := ((Keep.refl (fun k => w.heap.size + 2 ≤ k) wr).alloc (.cells #[.int .u64 (IntKind.u64.wrap (IntKind.u64.wrap (x * 2 ^ (8 * k)) + k))] 22)).grown hap.grew (fun k hk => .inl (HS.out.2.2.lt k hk).1)
   have hs2 := HS.out.2.1
   have hc4 := (HK.block w.heap.size (by omega) (by omega)).trans hb4
   have hc7 := (HK.block (w.heap.size + 1) (by omega) (by omega)).trans hb7
   have Ho3 := LH hap.own
   obtain ⟨A6, c6, rfl, _⟩ := own_slice hap.own
   have hlb : ∀ q, (Value.slice A6 (k + 1) c6).ownBlock = some q → w.heap.size + 2 ≤ q := fun q hq => (hap.own.lt q hq).1
   clear hap HK
   rw [← E1.out] at Ho3
   have hd3' : w3.cell? ⟨w.heap.size + 1, 2, none⟩ = _ := World.news_of_block hc7 2 _ rfl
   have hfr : ∀ o, w3.frozen? ⟨w.heap.size + 1, o, none⟩ = false := fun o => frozen0 o hc7
   have Hc := LH hc4
   have Hc' := LH hc7
   have Hlb := LH hlb
   clear hd0 hd1 hd2 hd3 hd4 hb4 hb7 hc4 hc7 hlb
   go_wp2
   go_roundw
   case rel =>
    have hkk : Keep (fun q => q = w.heap.size + 1) w3 (w3.setCell ⟨w.heap.size + 1, 2, none⟩ (.slice A6 (k + 1) c6)) := (Keep.refl (fun q => q = w.heap.size + 1) w3).setCell (p := ⟨w.heap.size + 1, 2, none⟩) (.inl rfl) _
    refine ⟨k + 1, by omega, by go_num, A6, c6, (hkk.block w.heap.size (by have := Hg3.out.2; omega) (by simp)).trans Hc.out, ?_, Hg3.out.1.setCell (.inr (by simp)) _, Nat.le_trans Hg3.out.2 hkk.size, own_keep Ho3.out hkk (fun q hq => by have := Hlb.out q hq; omega)⟩
    have hq := Hc'.out
    simp only [World.setCell, Array.getElem?_modify]
    simp [hq]
   case measure => simp [intOf]; omega
  obtain rfl : k = m := by omega
  have hlt' : ¬ ((k : Int) < x / 64) := by have := HMM.out; omega
  have HK0 : Hid (TK d ([] : List Int).length v w 1 0 (wdsK x k) (.slice A4 k c4) 0 (.slice none 0 0) [] ([] : List Int) (some ad) 0 wr) := LH (TK.begin hb4 hb7 HS.out.1 (by rw [wdsK_length]; exact HS.out.2.2) HT.out (Nat.le_refl _) HU.out.1)
  clear hb4 HS
  go_wp2_with fail
  clear hd0 hd1 hd2 hd3 hd4 hb7
  go_loopw [0, 12, 13, 14] (fun v0 v12 v13 v14 wr => ∃ (j : Nat) (lj : List Int) (A0 : Option Addr) (c0 : Nat) (A5 : Option Addr) (c5 : Nat) (rows : List (Tr × Value × Value × Value)), j ≤ q ∧ v12 = .int .i64 j ∧ v0 = .slice A0 lj.length c0 ∧ Hid (TK d ([] : List Int).length v w 1 0 (wdsK x k) (.slice A4 k c4) j (.slice A5 j c5) rows lj A0 c0 wr)) (fun _ v12 _ _ _ => q - (intOf v12).toNat)
  case atStart => exact ⟨0, ([] : List Int), (some ad), 0, none, 0, [], by omega, rfl, rfl, HK0⟩
  case round =>
   clear HK0
   obtain ⟨j, lj, A0, c0, A5, c5, rows, hj, rfl, rfl, HK⟩ := hrel
   obtain ⟨n0, n1, n2, n3, n4, nf⟩ := cells5 HK.out.nod
   by_cases hjt : j < q
   ·have hjt' : (j : Int) < x / 8 % 5 := by have := HQQ.out; omega
    have hwj : IntKind.i64.wrap ((j : Int) + 1) = (j : Int) + 1 := IntWalk.i64_in _ (by omega)
    have hwd : IntKind.i64.wrap ((deep : Int) - 1) = d := by rw [HDE.out.1]; exact IntWalk.i64_in _ (by have := HDE.out.1; have := HDE.out.2; omega)
    go_wp2_with fail
    refine (IH.out lj A0 c0 v wr (HV.out.grow HK.out.keep) HK.out.left (Nat.le_trans HK.out.le HU.out.2) HK.out.okl).mono ?_
    rintro e w4 ⟨t, B1, B2, B3, d1, d2, d3, l2, A2, c2, rfl, hg4, hf4, htn, htb, hl4, hle4, hok4, hsm4⟩
    have HM := LH (HK.out.called hg4 hf4)
    have HL := LH (And.intro hl4 (And.intro (Nat.le_trans hle4 HK.out.le) hok4))
    have HT2 := LH (And.intro htn htb)
    have HSM4 := LH hsm4
    clear hg4 hf4 htn htb hl4 hle4 hok4 hsm4 n0 n1 n2 n3 n4 nf
    have hga := (Keep.refl NoB w4).alloc (.cells #[.int .i64 t.kind, .int .i64 t.size, .slice B1 t.ws.length d1, .slice B2 t.bs.length d2, .slice B3 t.kids.length d3] 114)
    have hna := heap_alloc_new w4 (.cells #[.int .i64 t.kind, .int .i64 t.size, .slice B1 t.ws.length d1, .slice B2 t.bs.length d2, .slice B3 t.kids.length d3] 114)
    replace HM := LH (HM.out.grow hga)
    have HNA := LH hna
    clear hga hna
    obtain ⟨t0, t1, t2, t3, t4, tf⟩ := cells5 HNA.out
    obtain ⟨n0, n1, n2, n3, n4, nf⟩ := cells5 HM.out.nod
    have HSRC : Hid (((w4.alloc (.cells #[.int .i64 t.kind, .int .i64 t.size, .slice B1 t.ws.length d1, .slice B2 t.bs.length d2, .slice B3 t.kids.length d3] 114)).alloc (.cells #[.int .i64 t.kind, .int .i64 t.size, .slice B1 t.ws.length d1, .slice B2 t.bs.length d2, .slice B3 t.kids.length d3] 114)).heap[w4.heap.size + 1]? = some (.cells #[.int .i64 t.kind, .int .i64 t.size, .slice B1 t.ws.length d1, .slice B2 t.bs.length d2, .slice B3 t.kids.length d3] 114 (0, 0))) := LH (two_alloc w4 _ _).2.1
    have HSZ : Hid (w.heap.size + 2 ≤ ((w4.alloc (.cells #[.int .i64 t.kind, .int .i64 t.size, .slice B1 t.ws.length d1, .slice B2 t.bs.length d2, .slice B3 t.kids.length d3] 114)).alloc (.cells #[.int .i64 t.kind, .int .i64 t.size, .slice B1 t.ws.length d1, .slice B2 t.bs.length d2, .slice B3 t.kids.length d3] 114)).heap.size) := LH (by have := (gE HM.out.nod).1; simp at this ⊢; omega)
    go_wp2_with (at_builtin; refine wpList_app _ rfl _ _ 112 112 rfl (w.heap.size + 2) 114 (.agg #[.int .i64 0, .int .i64 0, .slice none 0 0, .slice none 0 0, .slice none 0 0]) 5 88 u_nodes info_node rfl (.slice A5 j c5) j (kcs rows) rfl (.slice (some ⟨w4.heap.size + 1, 0, none⟩) 1 1) 1 [.int .i64 t.kind, .int .i64 t.size, .slice B1 t.ws.length d1, .slice B2 t.bs.length d2, .slice B3 t.kids.length d3] rfl ?_ (by exact own_keep HM.out.own ((Keep.refl NoB _).alloc _) (fun _ _ h => h)) (by exact Src.ofSlice _ u_nodes ⟨w4.heap.size + 1, 0, none⟩ 1 1 _ rfl (World.news_of_block (cs := #[.int .i64 t.kind, .int .i64 t.size, .slice B1 t.ws.length d1, .slice B2 t.bs.length d2, .slice B3 t.kids.length d3]) (t := 114) (fr := (0, 0)) HSRC.out) (by simp [Value.oneCell'])) (by simp only [maxLen]; omega) (by omega) (by exact HSZ.out); intro v5 w5 hap; refine Hid.out ?_)
    refine LH ?_
    replace HM := LH (HM.out.grow ((Keep.refl NoB _).alloc (.cells #[.int .i64 t.kind, .int .i64 t.size, .slice B1 t.ws.length d1, .slice B2 t.bs.length d2, .slice B3 t.kids.length d3] 114)))
    have hfin := HM.out.appended (kid := (t, .slice B1 t.ws.length d1, .slice B2 t.bs.length d2, .slice B3 t.kids.length d3)) hap HK.out.len (fun x hx => by
     rcases List.mem_append.1 hx with e | e
     ·exact HK.out.ok x e
     ·rw [List.mem_singleton.1 e]; exact HT2.out) HL.out.1 HL.out.2.1 HL.out.2.2 (fun m9 h9 => ⟨fun x hx => by
     rcases List.mem_append.1 hx with e | e
     ·exact (HK.out.sm m9 h9).1 x e
     ·rw [List.mem_singleton.1 e]; exact (HSM4.out m9 h9).1, by
     have e1 := (HK.out.sm m9 h9).2
     have e2 := (HSM4.out m9 h9).2
     rw [List.map_append, List.sum_append]
     simp only [List.map_cons, List.map_nil, List.sum_cons, List.sum_nil]
     omega⟩)
    obtain ⟨A6, c6, rfl, _⟩ := own_slice hap.own
    have HF := LH hfin.1
    clear n0 n1 n2 n3 n4 nf t0 t1 t2 t3 t4 tf hap
    obtain ⟨n0, n1, n2, n3, n4, nf⟩ := cells5 hfin.2
    clear hfin
    go_wp2
    go_roundw
    case rel => exact ⟨j + 1, l2, A2, c2, A6, c6, _, by omega, by go_num, rfl, HF⟩
    case measure => simp [intOf]; omega
   ·obtain rfl : j = q := by omega
    have hjt' : ¬ ((j : Int) < x / 8 % 5) := by have := HQQ.out; omega
    obtain ⟨hf0, hf1, hf2, hf3, hf4, hfr⟩ := cells5 HK.out.res
    obtain ⟨hw5, -⟩ := stored5 (.int .i64 1) (.int .i64 0) (.slice A4 k c4) (.slice none 0 0) (.slice A5 j c5) HK.out.keep (Nat.le_refl _) HK.out.res
    have HW5 := LH hw5
    have HP : Hid (TreePost deep (([] : List Int).length + 1) ([] : List Int).length v w (.returned (.tuple #[.agg #[.int .i64 1, .int .i64 0, .slice A4 k c4, .slice none 0 0, .slice A5 j c5], .slice A0 lj.length c0])) (((((wr.setCell ⟨w.heap.size, 0, none⟩ (.int .i64 1)).setCell ⟨w.heap.size, 1, none⟩ (.int .i64 0)).setCell ⟨w.heap.size, 2, none⟩ (.slice A4 k c4)).setCell ⟨w.heap.size, 3, none⟩ (.slice none 0 0)).setCell ⟨w.heap.size, 4, none⟩ (.slice A5 j c5))) :=
     LH (HK.out.post (by have := HDE.out.1; omega) (by rw [wdsK_length]; simp [ownB]; have := HMM.out; omega) (by rw [wdsK_length]; simp [needN]; have := HMM.out; omega) (wdsK_length x k) (keepN5 _ _ _ _ _) (by rw [wdsK_length]; omega) (wdsK_num x k) (by omega))
    clear hw5
    go_wp2
    revert HW5 HP
    generalize (((((wr.setCell ⟨w.heap.size, 0, none⟩ (.int .i64 1)).setCell ⟨w.heap.size, 1, none⟩ (.int .i64 0)).setCell ⟨w.heap.size, 2, none⟩ (.slice A4 k c4)).setCell ⟨w.heap.size, 3, none⟩ (.slice none 0 0)).setCell ⟨w.heap.size, 4, none⟩ (.slice A5 j c5)) = w5
    intro HW5 HP
    obtain ⟨hf0, hf1, hf2, hf3, hf4, hfr⟩ := cells5 HW5.out
    refine bodyPost_ret (v := .tuple #[.agg #[.int .i64 1, .int .i64 0, .slice A4 k c4, .slice none 0 0, .slice A5 j c5], .slice A0 lj.length c0]) ?_ rfl HP.out
    rw [results_cell_tmp rfl]; go_simp
theorem tree7_ne (x : Int) (l : List Int) (ad : Addr) (n c : Nat) (deep : Nat) (v w : World) (hv : Grow v w) (h : SliceR 1 (.slice (some ad) n c) n (u8s (x :: l)) v) (hn : n = l.length + 1) (hl : l.length ≤ 1000000) (hx : 0 ≤ x ∧ x ≤ 255) (hu : okU l) (hd : deep ≠ 0) (hc1 : ¬ (c = 1)) (d : Nat) (hde : (deep : Int) - 1 = d) (hdl : deep ≤ 1000) (IH : Hid (TreeAt d)) (q : Nat) (hqq : (q : Int) = x / 8 % 5) (hm : x % 8 = 7) (m : Nat) (hmm : m = 0) :
    Calls Tryz.prog 56 #[(.slice (some ad) n c), .int .i64 deep] w (TreePost deep (l.length + 1) l.length v w) := by
 have HV := LH hv
 have HD0 := LH hd
 have HT := LH (h.tail2 hn hc1)
 have hcell0 : v.cell? ad = some (.int .u8 x) := by
  obtain ⟨A9, c9, e9, _, _, _, hq⟩ := h
  injection e9 with e9 _ _
  obtain ⟨a9, e8, hc⟩ := hq 0 (.int .u8 x) rfl
  rw [← e9] at e8
  injection e8 with e8
  subst e8
  rw [Addr.add_zero'] at hc
  exact hc
 have hcell := hv.cell hcell0 (fun h => h)
 clear hcell0 hv
 have hc : n ≤ c := by
  obtain ⟨_, _, e, h2, _⟩ := h
  injection e with _ e2 e3
  omega
 have hq : (((n : Nat) : Int) == 0) = false := beq_eq_false_iff_ne.2 (by omega)
 have hn1 : (1 : Int) ≤ n := by omega
 have hn0 : (0 : Int) < n := by omega
 have HN2 := LH hn
 have HLN : Hid (n - 1 = l.length) := LH (by omega)
 have hdq : (((deep : Nat) : Int) == 0) = false := beq_eq_false_iff_ne.2 (by omega)
 have hmb : (x % 8 == 0) = false := beq_eq_false_iff_ne.2 (by omega)
 have hm1 : (x % 8 == 1) = false := beq_eq_false_iff_ne.2 (by omega)
 have hm2 : (x % 8 == 2) = false := beq_eq_false_iff_ne.2 (by omega)
 have hm3 : (x % 8 == 3) = false := beq_eq_false_iff_ne.2 (by omega)
 have hm6 : 6 < x % 8 := by omega
 have HMM := LH hmm
 have HQQ := LH hqq
 have hm9 : m ≤ 20 := by omega
 have hq9 : q ≤ 4 := by omega
 have HU : Hid (okU l ∧ l.length ≤ 1000000) := LH ⟨hu, by omega⟩
 have HDE := LH (And.intro hde hdl)
 have hga := (Keep.refl NoB w).alloc (.cells #[.int .i64 0, .int .i64 0, .slice none 0 0, .slice none 0 0, .slice none 0 0] 114)
 have hgb := hga.alloc (.cells #[.int .i64 0, .int .i64 0, .slice none 0 0, .slice none 0 0, .slice none 0 0] 114)
 have hcell2 := hga.cell hcell (fun h => h)
 have HX : Hid (0 ≤ x ∧ x ≤ 255) := LH hx
 obtain ⟨hx1, hx2⟩ := hx
 have HN9 := LH hn
 clear h hm hmm hqq hd hn hcell hga hgb hu hde hdl
 go_enter Tryz.func56, Tryz.ntmps56
 go_wp2_with fail
 have hy1 : 0 ≤ x / 8 % 5 := by omega
 have hy2 : x / 8 % 5 ≤ 4 := by omega
 have hz1 : 0 ≤ x / 64 := by omega
 have hz2 : x / 64 ≤ 3 := by omega
 go_loopw [11] (fun v wr => ∃ k : Nat, k ≤ m ∧ v = .int .i64 k ∧ ∃ A4 c4, wr.heap[w.heap.size]? = some (.cells #[.int .i64 0, .int .i64 0, .slice none 0 0, .slice none 0 0, .slice none 0 0] 114 (0, 0)) ∧ wr.heap[w.heap.size + 1]? = some (.cells #[.int .i64 2, .int .i64 6, .slice A4 k c4, .slice none 0 0, .slice none 0 0] 114 (0, 0)) ∧ Hid (Grow w wr ∧ w.heap.size + 2 ≤ wr.heap.size ∧ wr.ownsRow (w.heap.size + 2) 22 1 (.slice A4 k c4) k (u64s (wdsK x k)))) (fun v _ => m - (intOf v).toNat)
 case atStart => exact ⟨0, by omega, rfl, none, 0, (two_alloc w _ _).1, (two_alloc w _ _).2.1, ((Keep.refl NoB w).alloc _).alloc _, Nat.le_of_eq (two_alloc w _ _).2.2.symm, World.ownsRow_nil _ (w.heap.size + 2) 22 1⟩
 case round =>
  obtain ⟨k, hk, rfl, A4, c4, hb4, hb7, HS⟩ := hrel
  have hwb : IntKind.i64.wrap (x / 8 % 5) = x / 8 % 5 := IntWalk.i64_in _ (by omega)
  have hwc : IntKind.i64.wrap (x / 64) = x / 64 := IntWalk.i64_in _ (by omega)
  have hd0 : wr.cell? ⟨w.heap.size + 1, 0, none⟩ = _ := World.news_of_block hb7 0 _ rfl
  have hd1 : wr.cell? ⟨w.heap.size + 1, 1, none⟩ = _ := World.news_of_block hb7 1 _ rfl
  have hd2 : wr.cell? ⟨w.heap.size + 1, 2, none⟩ = _ := World.news_of_block hb7 2 _ rfl
  have hd3 : wr.cell? ⟨w.heap.size + 1, 3, none⟩ = _ := World.news_of_block hb7 3 _ rfl
  have hd4 : wr.cell? ⟨w.heap.size + 1, 4, none⟩ = _ := World.news_of_block hb7 4 _ rfl
  obtain rfl : m = 0 := HMM.out
  obtain rfl : k = 0 := by omega
  rcases Decidable.em ((0 : Int) < x / 64) with hlt2 | hlt2
  ·have HK0 : Hid (TK d l.length v w 2 6 (wdsK x 0) (.slice A4 0 c4) 0 (.slice none 0 0) [] l (some ⟨ad.block, ad.off + 1, none⟩) (c - 1) wr) := LH (TK.begin hb4 hb7 HS.out.1 (by rw [wdsK_length]; exact HS.out.2.2) (by have := HT.out; rw [HLN.out] at this; exact this) (Nat.le_refl _) HU.out.1)
   clear hb4 HS
   go_wp2_with fail
   clear hd0 hd1 hd2 hd3 hd4 hb7
   go_loopw [0, 12, 13, 14] (fun v0 v12 v13 v14 wr => ∃ (j : Nat) (lj : List Int) (A0 : Option Addr) (c0 : Nat) (A5 : Option Addr) (c5 : Nat) (rows : List (Tr × Value × Value × Value)), j ≤ q ∧ v12 = .int .i64 j ∧ v0 = .slice A0 lj.length c0 ∧ Hid (TK d l.length v w 2 6 (wdsK x 0) (.slice A4 0 c4) j (.slice A5 j c5) rows lj A0 c0 wr)) (fun _ v12 _ _ _ => q - (intOf v12).toNat)
   case atStart => exact ⟨0, l, (some ⟨ad.block, ad.off + 1, none⟩), (c - 1), none, 0, [], by omega, rfl, (by rw [HLN.out]), HK0⟩
   case round =>
    clear HK0
    obtain ⟨j, lj, A0, c0, A5, c5, rows, hj, rfl, rfl, HK⟩ := hrel
    obtain ⟨n0, n1, n2, n3, n4, nf⟩ := cells5 HK.out.nod
    by_cases hjt : j < q
    ·have hjt' : (j : Int) < x / 8 % 5 := by have := HQQ.out; omega
     have hwj : IntKind.i64.wrap ((j : Int) + 1) = (j : Int) + 1 := IntWalk.i64_in _ (by omega)
     have hwd : IntKind.i64.wrap ((deep : Int) - 1) = d := by rw [HDE.out.1]; exact IntWalk.i64_in _ (by have := HDE.out.1; have := HDE.out.2; omega)
     go_wp2_with fail
     refine (IH.out lj A0 c0 v wr (HV.out.grow HK.out.keep) HK.out.left (Nat.le_trans HK.out.le HU.out.2) HK.out.okl).mono ?_
     rintro e w4 ⟨t, B1, B2, B3, d1, d2, d3, l2, A2, c2, rfl, hg4, hf4, htn, htb, hl4, hle4, hok4, hsm4⟩
     have HM := LH (HK.out.called hg4 hf4)
     have HL := LH (And.intro hl4 (And.intro (Nat.le_trans hle4 HK.out.le) hok4))
     have HT2 := LH (And.intro htn htb)
     have HSM4 := LH hsm4
     clear hg4 hf4 htn htb hl4 hle4 hok4 hsm4 n0 n1 n2 n3 n4 nf
     have hga := (Keep.refl NoB w4).alloc (.cells #[.int .i64 t.kind, .int .i64 t.size, .slice B1 t.ws.length d1, .slice B2 t.bs.length d2, .slice B3 t.kids.length d3] 114)
     have hna := heap_alloc_new w4 (.cells #[.int .i64 t.kind, .int .i64 t.size, .slice B1 t.ws.length d1, .slice B2 t.bs.length d2, .slice B3 t.kids.length d3] 114)
     replace HM := LH (HM.out.grow hga)
     have HNA := LH hna
     clear hga hna
     obtain ⟨t0, t1, t2, t3, t4, tf⟩ := cells5 HNA.out
     obtain ⟨n0, n1, n2, n3, n4, nf⟩ := cells5 HM.out.nod
     have HSRC : Hid (((w4.alloc (.cells #[.int .i64 t.kind, .int .i64 t.size, .slice B1 t.ws.length d1, .slice B2 t.bs.length d2, .slice B3 t.kids.length d3] 114)).alloc (.cells #[.int .i64 t.kind, .int .i64 t.size, .slice B1 t.ws.length d1, .slice B2 t.bs.length d2, .slice B3 t.kids.length d3] 114)).heap[w4.heap.size + 1]? = some (.cells #[.int .i64 t.kind, .int .i64 t.size, .slice B1 t.ws.length d1, .slice B2 t.bs.length d2, .slice B3 t.kids.length d3] 114 (0, 0))) := LH (two_alloc w4 _ _).2.1
     have HSZ : Hid (w.heap.size + 2 ≤ ((w4.alloc (.cells #[.int .i64 t.kind, .int .i64 t.size, .slice B1 t.ws.length d1, .slice B2 t.bs.length d2, .slice B3 t.kids.length d3] 114)).alloc (.cells #[.int .i64 t.kind, .int .i64 t.size, .slice B1 t.ws.length d1, .slice B2 t.bs.length d2, .slice B3 t.kids.length d3] 114)).heap.size) := LH (by have := (gE HM.out.nod).1; simp at this ⊢; omega)
     go_wp2_with (at_builtin; refine wpList_app _ rfl _ _ 112 112 rfl (w.heap.size + 2) 114 (.agg #[.int .i64 0, .int .i64 0, .slice none 0 0, .slice none 0 0, .slice none 0 0]) 5 88 u_nodes info_node rfl (.slice A5 j c5) j (kcs rows) rfl (.slice (some ⟨w4.heap.size + 1, 0, none⟩) 1 1) 1 [.int .i64 t.kind, .int .i64 t.size, .slice B1 t.ws.length d1, .slice B2 t.bs.length d2, .slice B3 t.kids.length d3] rfl ?_ (by exact own_keep HM.out.own ((Keep.refl NoB _).alloc _) (fun _ _ h => h)) (by exact Src.ofSlice _ u_nodes ⟨w4.heap.size + 1, 0, none⟩ 1 1 _ rfl (World.news_of_block (cs := #[.int .i64 t.kind, .int .i64 t.size, .slice B1 t.ws.length d1, .slice B2 t.bs.length d2, .slice B3 t.kids.length d3]) (t := 114) (fr := (0, 0)) HSRC.out) (by simp [Value.oneCell'])) (by simp only [maxLen]; omega) (by omega) (by exact HSZ.out); intro v5 w5 hap; refine Hid.out ?_)
     refine LH ?_
     replace HM := LH (HM.out.grow ((Keep.refl NoB _).alloc (.cells #[.int .i64 t.kind, .int .i64 t.size, .slice B1 t.ws.length d1, .slice B2 t.bs.length d2, .slice B3 t.kids.length d3] 114)))
     have hfin := HM.out.appended (kid := (t, .slice B1 t.ws.length d1, .slice B2 t.bs.length d2, .slice B3 t.kids.length d3)) hap HK.out.len (fun x hx => by
      rcases List.mem_append.1 hx with e | e
      ·exact HK.out.ok x e
      ·rw [List.mem_singleton.1 e]; exact HT2.out) HL.out.1 HL.out.2.1 HL.out.2.2 (fun m9 h9 => ⟨fun x hx => by
      rcases List.mem_append.1 hx with e | e
      ·exact (HK.out.sm m9 h9).1 x e
      ·rw [List.mem_singleton.1 e]; exact (HSM4.out m9 h9).1, by
      have e1 := (HK.out.sm m9 h9).2
      have e2 := (HSM4.out m9 h9).2
      rw [List.map_append, List.sum_append]
      simp only [List.map_cons, List.map_nil, List.sum_cons, List.sum_nil]
      omega⟩)
     obtain ⟨A6, c6, rfl, _⟩ := own_slice hap.own
     have HF := LH hfin.1
     clear n0 n1 n2 n3 n4 nf t0 t1 t2 t3 t4 tf hap
     obtain ⟨n0, n1, n2, n3, n4, nf⟩ := cells5 hfin.2
     clear hfin
     go_wp2
     go_roundw
     case rel => exact ⟨j + 1, l2, A2, c2, A6, c6, _, by omega, by go_num, rfl, HF⟩
     case measure => simp [intOf]; omega
    ·obtain rfl : j = q := by omega
     have hjt' : ¬ ((j : Int) < x / 8 % 5) := by have := HQQ.out; omega
     obtain ⟨hf0, hf1, hf2, hf3, hf4, hfr⟩ := cells5 HK.out.res
     obtain ⟨hw5, -⟩ := stored5 (.int .i64 2) (.int .i64 6) (.slice A4 0 c4) (.slice none 0 0) (.slice A5 j c5) HK.out.keep (Nat.le_refl _) HK.out.res
     have HW5 := LH hw5
     have HP : Hid (TreePost deep (l.length + 1) l.length v w (.returned (.tuple #[.agg #[.int .i64 2, .int .i64 6, .slice A4 0 c4, .slice none 0 0, .slice A5 j c5], .slice A0 lj.length c0])) (((((wr.setCell ⟨w.heap.size, 0, none⟩ (.int .i64 2)).setCell ⟨w.heap.size, 1, none⟩ (.int .i64 6)).setCell ⟨w.heap.size, 2, none⟩ (.slice A4 0 c4)).setCell ⟨w.heap.size, 3, none⟩ (.slice none 0 0)).setCell ⟨w.heap.size, 4, none⟩ (.slice A5 j c5))) :=
      LH (HK.out.post (by have := HDE.out.1; omega) (by rw [wdsK_length]; simp [ownB]; omega) (by rw [wdsK_length]; simp [needN]; omega) (wdsK_length x 0) (keepN5 _ _ _ _ _) (by rw [wdsK_length]; omega) (wdsK_num x 0) (by omega))
     clear hw5
     go_wp2
     revert HW5 HP
     generalize (((((wr.setCell ⟨w.heap.size, 0, none⟩ (.int .i64 2)).setCell ⟨w.heap.size, 1, none⟩ (.int .i64 6)).setCell ⟨w.heap.size, 2, none⟩ (.slice A4 0 c4)).setCell ⟨w.heap.size, 3, none⟩ (.slice none 0 0)).setCell ⟨w.heap.size, 4, none⟩ (.slice A5 j c5)) = w5
     intro HW5 HP
     obtain ⟨hf0, hf1, hf2, hf3, hf4, hfr⟩ := cells5 HW5.out
     refine bodyPost_ret (v := .tuple #[.agg #[.int .i64 2, .int .i64 6, .slice A4 0 c4, .slice none 0 0, .slice A5 j c5], .slice A0 lj.length c0]) ?_ rfl HP.out
     rw [results_cell_tmp rfl]; go_simp
  ·have HK0 : Hid (TK d l.length v w 2 6 (wdsK x 0) (.slice A4 0 c4) 0 (.slice none 0 0) [] l (some ⟨ad.block, ad.off + 1, none⟩) (c - 1) wr) := LH (TK.begin hb4 hb7 HS.out.1 (by rw [wdsK_length]; exact HS.out.2.2) (by have := HT.out; rw [HLN.out] at this; exact this) (Nat.le_refl _) HU.out.1)
   clear hb4 HS
   go_wp2_with fail
   clear hd0 hd1 hd2 hd3 hd4 hb7
   go_loopw [0, 12, 13, 14] (fun v0 v12 v13 v14 wr => ∃ (j : Nat) (lj : List Int) (A0 : Option Addr) (c0 : Nat) (A5 : Option Addr) (c5 : Nat) (rows : List (Tr × Value × Value × Value)), j ≤ q ∧ v12 = .int .i64 j ∧ v0 = .slice A0 lj.length c0 ∧ Hid (TK d l.length v w 2 6 (wdsK x 0) (.slice A4 0 c4) j (.slice A5 j c5) rows lj A0 c0 wr)) (fun _ v12 _ _ _ => q - (intOf v12).toNat)
   case atStart => exact ⟨0, l, (some ⟨ad.block, ad.off + 1, none⟩), (c - 1), none, 0, [], by omega, rfl, (by rw [HLN.out]), HK0⟩
   case round =>
    clear HK0
    obtain ⟨j, lj, A0, c0, A5, c5, rows, hj, rfl, rfl, HK⟩ := hrel
    obtain ⟨n0, n1, n2, n3, n4, nf⟩ := cells5 HK.out.nod
    by_cases hjt : j < q
    ·have hjt' : (j : Int) < x / 8 % 5 := by have := HQQ.out; omega
     have hwj : IntKind.i64.wrap ((j : Int) + 1) = (j : Int) + 1 := IntWalk.i64_in _ (by omega)
     have hwd : IntKind.i64.wrap ((deep : Int) - 1) = d := by rw [HDE.out.1]; exact IntWalk.i64_in _ (by have := HDE.out.1; have := HDE.out.2; omega)
     go_wp2_with fail
     refine (IH.out lj A0 c0 v wr (HV.out.grow HK.out.keep) HK.out.left (Nat.le_trans HK.out.le HU.out.2) HK.out.okl).mono ?_
     rintro e w4 ⟨t, B1, B2, B3, d1, d2, d3, l2, A2, c2, rfl, hg4, hf4, htn, htb, hl4, hle4, hok4, hsm4⟩
     have HM := LH (HK.out.called hg4 hf4)
     have HL := LH (And.intro hl4 (And.intro (Nat.le_trans hle4 HK.out.le) hok4))
     have HT2 := LH (And.intro htn htb)
     have HSM4 := LH hsm4
     clear hg4 hf4 htn htb hl4 hle4 hok4 hsm4 n0 n1 n2 n3 n4 nf
     have hga := (Keep.refl NoB w4).alloc (.cells #[.int .i64 t.kind, .int .i64 t.size, .slice B1 t.ws.length d1, .slice B2 t.bs.length d2, .slice B3 t.kids.length d3] 114)
     have hna := heap_alloc_new w4 (.cells #[.int .i64 t.kind, .int .i64 t.size, .slice B1 t.ws.length d1, .slice B2 t.bs.length d2, .slice B3 t.kids.length d3] 114)
     replace HM := LH (HM.out.grow hga)
     have HNA := LH hna
     clear hga hna
     obtain ⟨t0, t1, t2, t3, t4, tf⟩ := cells5 HNA.out
     obtain ⟨n0, n1, n2, n3, n4, nf⟩ := cells5 HM.out.nod
     have HSRC : Hid (((w4.alloc (.cells #[.int .i64 t.kind, .int .i64 t.size, .slice B1 t.ws.length d1, .slice B2 t.bs.length d2, .slice B3 t.kids.length d3] 114)).alloc (.cells #[.int .i64 t.kind, .int .i64 t.size, .slice B1 t.ws.length d1, .slice B2 t.bs.length d2, .slice B3 t.kids.length d3] 114)).heap[w4.heap.size + 1]? = some (.cells #[.int .i64 t.kind, .int .i64 t.size, .slice B1 t.ws.length d1, .slice B2 t.bs.length d2, .slice B3 t.kids.length d3] 114 (0, 0))) := LH (two_alloc w4 _ _).2.1
     have HSZ : Hid (w.heap.size + 2 ≤ ((w4.alloc (.cells #[.int .i64 t.kind, .int .i64 t.size, .slice B1 t.ws.length d1, .slice B2 t.bs.length d2, .slice B3 t.kids.length d3] 114)).alloc (.cells #[.int .i64 t.kind, .int .i64 t.size, .slice B1 t.ws.length d1, .slice B2 t.bs.length d2, .slice B3 t.kids.length d3] 114)).heap.size) := LH (by have := (gE HM.out.nod).1; simp at this ⊢; omega)
     go_wp2_with (at_builtin; refine wpList_app _ rfl _ _ 112 112 rfl (w.heap.size + 2) 114 (.agg #[.int .i64 0, .int .i64 0, .slice none 0 0, .slice none 0 0, .slice none 0 0]) 5 88 u_nodes info_node rfl (.slice A5 j c5) j (kcs rows) rfl (.slice (some ⟨w4.heap.size + 1, 0, none⟩) 1 1) 1 [.int .i64 t.kind, .int .i64 t.size, .slice B1 t.ws.length d1, .slice B2 t.bs.length d2, .slice B3 t.kids.length d3] rfl ?_ (by exact own_keep HM.out.own ((Keep.refl NoB _).alloc _) (fun _ _ h => h)) (by exact Src.ofSlice _ u_nodes ⟨w4.heap.size + 1, 0, none⟩ 1 1 _ rfl (World.news_of_block (cs := #[.int .i64 t.kind, .int .i64 t.size, .slice B1 t.ws.length d1, .slice B2 t.bs.length d2, .slice B3 t.kids.length d3]) (t := 114) (fr := (0, 0)) HSRC.out) (by simp [Value.oneCell'])) (by simp only [maxLen]; omega) (by omega) (by exact HSZ.out); intro v5 w5 hap; refine Hid.out ?_)
     refine LH ?_
     replace HM := LH (HM.out.grow ((Keep.refl NoB _).alloc (.cells #[.int .i64 t.kind, .int .i64 t.size, .slice B1 t.ws.length d1, .slice B2 t.bs.length d2, .slice B3 t.kids.length d3] 114)))
     have hfin := HM.out.appended (kid := (t, .slice B1 t.ws.length d1, .slice B2 t.bs.length d2, .slice B3 t.kids.length d3)) hap HK.out.len (fun x hx => by
      rcases List.mem_append.1 hx with e | e
      ·exact HK.out.ok x e
      ·rw [List.mem_singleton.1 e]; exact HT2.out) HL.out.1 HL.out.2.1 HL.out.2.2 (fun m9 h9 => ⟨fun x hx => by
      rcases List.mem_append.1 hx with e | e
      ·exact (HK.out.sm m9 h9).1 x e
      ·rw [List.mem_singleton.1 e]; exact (HSM4.out m9 h9).1, by
      have e1 := (HK.out.sm m9 h9).2
      have e2 := (HSM4.out m9 h9).2
      rw [List.map_append, List.sum_append]
      simp only [List.map_cons, List.map_nil, List.sum_cons, List.sum_nil]
      omega⟩)
     obtain ⟨A6, c6, rfl, _⟩ := own_slice hap.own
     have HF := LH hfin.1
     clear n0 n1 n2 n3 n4 nf t0 t1 t2 t3 t4 tf hap
     obtain ⟨n0, n1, n2, n3, n4, nf⟩ := cells5 hfin.2
     clear hfin
     go_wp2
     go_roundw
     case rel => exact ⟨j + 1, l2, A2, c2, A6, c6, _, by omega, by go_num, rfl, HF⟩
     case measure => simp [intOf]; omega
    ·obtain rfl : j = q := by omega
     have hjt' : ¬ ((j : Int) < x / 8 % 5) := by have := HQQ.out; omega
     obtain ⟨hf0, hf1, hf2, hf3, hf4, hfr⟩ := cells5 HK.out.res
     obtain ⟨hw5, -⟩ := stored5 (.int .i64 2) (.int .i64 6) (.slice A4 0 c4) (.slice none 0 0) (.slice A5 j c5) HK.out.keep (Nat.le_refl _) HK.out.res
     have HW5 := LH hw5
     have HP : Hid (TreePost deep (l.length + 1) l.length v w (.returned (.tuple #[.agg #[.int .i64 2, .int .i64 6, .slice A4 0 c4, .slice none 0 0, .slice A5 j c5], .slice A0 lj.length c0])) (((((wr.setCell ⟨w.heap.size, 0, none⟩ (.int .i64 2)).setCell ⟨w.heap.size, 1, none⟩ (.int .i64 6)).setCell ⟨w.heap.size, 2, none⟩ (.slice A4 0 c4)).setCell ⟨w.heap.size, 3, none⟩ (.slice none 0 0)).setCell ⟨w.heap.size, 4, none⟩ (.slice A5 j c5))) :=
      LH (HK.out.post (by have := HDE.out.1; omega) (by rw [wdsK_length]; simp [ownB]; omega) (by rw [wdsK_length]; simp [needN]; omega) (wdsK_length x 0) (keepN5 _ _ _ _ _) (by rw [wdsK_length]; omega) (wdsK_num x 0) (by omega))
     clear hw5
     go_wp2
     revert HW5 HP
     generalize (((((wr.setCell ⟨w.heap.size, 0, none⟩ (.int .i64 2)).setCell ⟨w.heap.size, 1, none⟩ (.int .i64 6)).setCell ⟨w.heap.size, 2, none⟩ (.slice A4 0 c4)).setCell ⟨w.heap.size, 3, none⟩ (.slice none 0 0)).setCell ⟨w.heap.size, 4, none⟩ (.slice A5 j c5)) = w5
     intro HW5 HP
     obtain ⟨hf0, hf1, hf2, hf3, hf4, hfr⟩ := cells5 HW5.out
     refine bodyPost_ret (v := .tuple #[.agg #[.int .i64 2, .int .i64 6, .slice A4 0 c4, .slice none 0 0, .slice A5 j c5], .slice A0 lj.length c0]) ?_ rfl HP.out
     rw [results_cell_tmp rfl]; go_simp
theorem tree7_eq (x : Int) (ad : Addr) (deep : Nat) (v w : World) (hv : Grow v w) (h : SliceR 1 (.slice (some ad) 1 1) 1 (u8s [x]) v) (hx : 0 ≤ x ∧ x ≤ 255) (hd : deep ≠ 0) (d : Nat) (hde : (deep : Int) - 1 = d) (hdl : deep ≤ 1000) (IH : Hid (TreeAt d)) (q : Nat) (hqq : (q : Int) = x / 8 % 5) (hm : x % 8 = 7) (m : Nat) (hmm : m = 0) :
    Calls Tryz.prog 56 #[(.slice (some ad) 1 1), .int .i64 deep] w (TreePost deep (([] : List Int).length + 1) ([] : List Int).length v w) := by
 have HV := LH hv
 have HD0 := LH hd
 have HT : Hid (SliceR 1 (.slice (some ad) 0 0) 0 (u8s []) v) := LH ⟨some ad, 0, rfl, Nat.le_refl _, by simp [u8s], fun _ => rfl, fun j u hu => by simp [u8s] at hu⟩
 have hcell0 : v.cell? ad = some (.int .u8 x) := by
  obtain ⟨A9, c9, e9, _, _, _, hq⟩ := h
  injection e9 with e9 _ _
  obtain ⟨a9, e8, hc⟩ := hq 0 (.int .u8 x) rfl
  rw [← e9] at e8
  injection e8 with e8
  subst e8
  rw [Addr.add_zero'] at hc
  exact hc
 have hcell := hv.cell hcell0 (fun h => h)
 clear hcell0 hv
 have hu : okU [] := fun y hy => by cases hy
 have hn : 0 = ([] : List Int).length := rfl
 have hdq : (((deep : Nat) : Int) == 0) = false := beq_eq_false_iff_ne.2 (by omega)
 have hmb : (x % 8 == 0) = false := beq_eq_false_iff_ne.2 (by omega)
 have hm1 : (x % 8 == 1) = false := beq_eq_false_iff_ne.2 (by omega)
 have hm2 : (x % 8 == 2) = false := beq_eq_false_iff_ne.2 (by omega)
 have hm3 : (x % 8 == 3) = false := beq_eq_false_iff_ne.2 (by omega)
 have hm6 : 6 < x % 8 := by omega
 have HMM := LH hmm
 have HQQ := LH hqq
 have hm9 : m ≤ 20 := by omega
 have hq9 : q ≤ 4 := by omega
 have HU : Hid (okU ([] : List Int) ∧ ([] : List Int).length ≤ 1000000) := LH ⟨hu, by simp⟩
 have HDE := LH (And.intro hde hdl)
 have hga := (Keep.refl NoB w).alloc (.cells #[.int .i64 0, .int .i64 0, .slice none 0 0, .slice none 0 0, .slice none 0 0] 114)
 have hgb := hga.alloc (.cells #[.int .i64 0, .int .i64 0, .slice none 0 0, .slice none 0 0, .slice none 0 0] 114)
 have hcell2 := hga.cell hcell (fun h => h)
 have HX : Hid (0 ≤ x ∧ x ≤ 255) := LH hx
 obtain ⟨hx1, hx2⟩ := hx
 have HN9 := LH hn
 clear h hm hmm hqq hd hn hcell hga hgb hu hde hdl
 go_enter Tryz.func56, Tryz.ntmps56
 go_wp2_with fail
 have hy1 : 0 ≤ x / 8 % 5 := by omega
 have hy2 : x / 8 % 5 ≤ 4 := by omega
 have hz1 : 0 ≤ x / 64 := by omega
 have hz2 : x / 64 ≤ 3 := by omega
 go_loopw [11] (fun v wr => ∃ k : Nat, k ≤ m ∧ v = .int .i64 k ∧ ∃ A4 c4, wr.heap[w.heap.size]? = some (.cells #[.int .i64 0, .int .i64 0, .slice none 0 0, .slice none 0 0, .slice none 0 0] 114 (0, 0)) ∧ wr.heap[w.heap.size + 1]? = some (.cells #[.int .i64 2, .int .i64 6, .slice A4 k c4, .slice none 0 0, .slice none 0 0] 114 (0, 0)) ∧ Hid (Grow w wr ∧ w.heap.size + 2 ≤ wr.heap.size ∧ wr.ownsRow (w.heap.size + 2) 22 1 (.slice A4 k c4) k (u64s (wdsK x k)))) (fun v _ => m - (intOf v).toNat)
 case atStart => exact ⟨0, by omega, rfl, none, 0, (two_alloc w _ _).1, (two_alloc w _ _).2.1, ((Keep.refl NoB w).alloc _).alloc _, Nat.le_of_eq (two_alloc w _ _).2.2.symm, World.ownsRow_nil _ (w.heap.size + 2) 22 1⟩
 case round =>
  obtain ⟨k, hk, rfl, A4, c4, hb4, hb7, HS⟩ := hrel
  have hwb : IntKind.i64.wrap (x / 8 % 5) = x / 8 % 5 := IntWalk.i64_in _ (by omega)
  have hwc : IntKind.i64.wrap (x / 64) = x / 64 := IntWalk.i64_in _ (by omega)
  have hd0 : wr.cell? ⟨w.heap.size + 1, 0, none⟩ = _ := World.news_of_block hb7 0 _ rfl
  have hd1 : wr.cell? ⟨w.heap.size + 1, 1, none⟩ = _ := World.news_of_block hb7 1 _ rfl
  have hd2 : wr.cell? ⟨w.heap.size + 1, 2, none⟩ = _ := World.news_of_block hb7 2 _ rfl
  have hd3 : wr.cell? ⟨w.heap.size + 1, 3, none⟩ = _ := World.news_of_block hb7 3 _ rfl
  have hd4 : wr.cell? ⟨w.heap.size + 1, 4, none⟩ = _ := World.news_of_block hb7 4 _ rfl
  obtain rfl : m = 0 := HMM.out
  obtain rfl : k = 0 := by omega
  rcases Decidable.em ((0 : Int) < x / 64) with hlt2 | hlt2
  ·have HK0 : Hid (TK d ([] : List Int).length v w 2 6 (wdsK x 0) (.slice A4 0 c4) 0 (.slice none 0 0) [] ([] : List Int) (some ad) 0 wr) := LH (TK.begin hb4 hb7 HS.out.1 (by rw [wdsK_length]; exact HS.out.2.2) HT.out (Nat.le_refl _) HU.out.1)
   clear hb4 HS
   go_wp2_with fail
   clear hd0 hd1 hd2 hd3 hd4 hb7
   go_loopw [0, 12, 13, 14] (fun v0 v12 v13 v14 wr => ∃ (j : Nat) (lj : List Int) (A0 : Option Addr) (c0 : Nat) (A5 : Option Addr) (c5 : Nat) (rows : List (Tr × Value × Value × Value)), j ≤ q ∧ v12 = .int .i64 j ∧ v0 = .slice A0 lj.length c0 ∧ Hid (TK d ([] : List Int).length v w 2 6 (wdsK x 0) (.slice A4 0 c4) j (.slice A5 j c5) rows lj A0 c0 wr)) (fun _ v12 _ _ _ => q - (intOf v12).toNat)
   case atStart => exact ⟨0, ([] : List Int), (some ad), 0, none, 0, [], by omega, rfl, rfl, HK0⟩
   case round =>
    clear HK0
    obtain ⟨j, lj, A0, c0, A5, c5, rows, hj, rfl, rfl, HK⟩ := hrel
    obtain ⟨n0, n1, n2, n3, n4, nf⟩ := cells5 HK.out.nod
    by_cases hjt : j < q
    ·have hjt' : (j : Int) < x / 8 % 5 := by have := HQQ.out; omega
     have hwj : IntKind.i64.wrap ((j : Int) + 1) = (j : Int) + 1 := IntWalk.i64_in _ (by omega)
     have hwd : IntKind.i64.wrap ((deep : Int) - 1) = d := by rw [HDE.out.1]; exact IntWalk.i64_in _ (by have := HDE.out.1; have := HDE.out.2; omega)
     go_wp2_with fail
     refine (IH.out lj A0 c0 v wr (HV.out.grow HK.out.keep) HK.out.left (Nat.le_trans HK.out.le HU.out.2) HK.out.okl).mono ?_
     rintro e w4 ⟨t, B1, B2, B3, d1, d2, d3, l2, A2, c2, rfl, hg4, hf4, htn, htb, hl4, hle4, hok4, hsm4⟩
     have HM := LH (HK.out.called hg4 hf4)
     have HL := LH (And.intro hl4 (And.intro (Nat.le_trans hle4 HK.out.le) hok4))
     have HT2 := LH (And.intro htn htb)
     have HSM4 := LH hsm4
     clear hg4 hf4 htn htb hl4 hle4 hok4 hsm4 n0 n1 n2 n3 n4 nf
     have hga := (Keep.refl NoB w4).alloc (.cells #[.int .i64 t.kind, .int .i64 t.size, .slice B1 t.ws.length d1, .slice B2 t.bs.length d2, .slice B3 t.kids.length d3] 114)
     have hna := heap_alloc_new w4 (.cells #[.int .i64 t.kind, .int .i64 t.size, .slice B1 t.ws.length d1, .slice B2 t.bs.length d2, .slice B3 t.kids.length d3] 114)
     replace HM := LH (HM.out.grow hga)
     have HNA := LH hna
     clear hga hna
     obtain ⟨t0, t1, t2, t3, t4, tf⟩ := cells5 HNA.out
     obtain ⟨n0, n1, n2, n3, n4, nf⟩ := cells5 HM.out.nod
     have HSRC : Hid (((w4.alloc (.cells #[.int .i64 t.kind, .int .i64 t.size, .slice B1 t.ws.length d1, .slice B2 t.bs.length d2, .slice B3 t.kids.length d3] 114)).alloc (.cells #[.int .i64 t.kind, .int .i64 t.size, .slice B1 t.ws.length d1, .slice B2 t.bs.length d2, .slice B3 t.kids.length d3] 114)).heap[w4.heap.size + 1]? = some (.cells #[.int .i64 t.kind, .int .i64 t.size, .slice B1 t.ws.length d1, .slice B2 t.bs.length d2, .slice B3 t.kids.length d3] 114 (0, 0))) := LH (two_alloc w4 _ _).2.1
     have HSZ : Hid (w.heap.size + 2 ≤ ((w4.alloc (.cells #[.int .i64 t.kind, .int .i64 t.size, .slice B1 t.ws.length d1, .slice B2 t.bs.length d2, .slice B3 t.kids.length d3] 114)).alloc (.cells #[.int .i64 t.kind, .int .i64 t.size, .slice B1 t.ws.length d1, .slice B2 t.bs.length d2, .slice B3 t.kids.length d3] 114)).heap.size) := LH (by have := (gE HM.out.nod).1; simp at this ⊢; omega)
     go_wp2_with (at_builtin; refine wpList_app _ rfl _ _ 112 112 rfl (w.heap.size + 2) 114 (.agg #[.int .i64 0, .int .i64 0, .slice none 0 0, .slice none 0 0, .slice none 0 0]) 5 88 u_nodes info_node rfl (.slice A5 j c5) j (kcs rows) rfl (.slice (some ⟨w4.heap.size + 1, 0, none⟩) 1 1) 1 [.int .i64 t.kind, .int .i64 t.size, .slice B1 t.ws.length d1, .slice B2 t.bs.length d2, .slice B3 t.kids.length d3] rfl ?_ (by exact own_keep HM.out.own ((Keep.refl NoB _).alloc _) (fun _ _ h => h)) (by exact Src.ofSlice _ u_nodes ⟨w4.heap.size + 1, 0, none⟩ 1 1 _ rfl (World.news_of_block (cs := #[.int .i64 t.kind, .int .i64 t.size, .slice B1 t.ws.length d1, .slice B2 t.bs.length d2, .slice B3 t.kids.length d3]) (t := 114) (fr := (0, 0)) HSRC.out) (by simp [Value.oneCell'])) (by simp only [maxLen]; omega) (by omega) (by exact HSZ.out); intro v5 w5 hap; refine Hid.out ?_)
     refine LH ?_
     replace HM := LH (HM.out.grow ((Keep.refl NoB _).alloc (.cells #[.int .i64 t.kind, .int .i64 t.size, .slice B1 t.ws.length d1, .slice B2 t.bs.length d2, .slice B3 t.kids.length d3] 114)))
     have hfin := HM.out.appended (kid := (t, .slice B1 t.ws.length d1, .slice B2 t.bs.length d2, .slice B3 t.kids.length d3)) hap HK.out.len (fun x hx => by
      rcases List.mem_append.1 hx with e | e
      ·exact HK.out.ok x e
      ·rw [List.mem_singleton.1 e]; exact HT2.out) HL.out.1 HL.out.2.1 HL.out.2.2 (fun m9 h9 => ⟨fun x hx => by
      rcases List.mem_append.1 hx with e | e
      ·exact (HK.out.sm m9 h9).1 x e
      ·rw [List.mem_singleton.1 e]; exact (HSM4.out m9 h9).1, by
      have e1 := (HK.out.sm m9 h9).2
      have e2 := (HSM4.out m9 h9).2
      rw [List.map_append, List.sum_append]
      simp only [List.map_cons, List.map_nil, List.sum_cons, List.sum_nil]
      omega⟩)
     obtain ⟨A6, c6, rfl, _⟩ := own_slice hap.own
     have HF := LH hfin.1
     clear n0 n1 n2 n3 n4 nf t0 t1 t2 t3 t4 tf hap
     obtain ⟨n0, n1, n2, n3, n4, nf⟩ := cells5 hfin.2
     clear hfin
     go_wp2
     go_roundw
     case rel => exact ⟨j + 1, l2, A2, c2, A6, c6, _, by omega, by go_num, rfl, HF⟩
     case measure => simp [intOf]; omega
    ·obtain rfl : j = q := by omega
     have hjt' : ¬ ((j : Int) < x / 8 % 5) := by have := HQQ.out; omega
     obtain ⟨hf0, hf1, hf2, hf3, hf4, hfr⟩ := cells5 HK.out.res
     obtain ⟨hw5, -⟩ := stored5 (.int .i64 2) (.int .i64 6) (.slice A4 0 c4) (.slice none 0 0) (.slice A5 j c5) HK.out.keep (Nat.le_refl _) HK.out.res
     have HW5 := LH hw5
     have HP : Hid (TreePost deep (([] : List Int).length + 1) ([] : List Int).length v w (.returned (.tuple #[.agg #[.int .i64 2, .int .i64 6, .slice A4 0 c4, .slice none 0 0, .slice A5 j c5], .slice A0 lj.length c0])) (((((wr.setCell ⟨w.heap.size, 0, none⟩ (.int .i64 2)).setCell ⟨w.heap.size, 1, none⟩ (.int .i64 6)).setCell ⟨w.heap.size, 2, none⟩ (.slice A4 0 c4)).setCell ⟨w.heap.size, 3, none⟩ (.slice none 0 0)).setCell ⟨w.heap.size, 4, none⟩ (.slice A5 j c5))) :=
      LH (HK.out.post (by have := HDE.out.1; omega) (by rw [wdsK_length]; simp [ownB]; omega) (by rw [wdsK_length]; simp [needN]; omega) (wdsK_length x 0) (keepN5 _ _ _ _ _) (by rw [wdsK_length]; omega) (wdsK_num x 0) (by omega))
     clear hw5
     go_wp2
     revert HW5 HP
     generalize (((((wr.setCell ⟨w.heap.size, 0, none⟩ (.int .i64 2)).setCell ⟨w.heap.size, 1, none⟩ (.int .i64 6)).setCell ⟨w.heap.size, 2, none⟩ (.slice A4 0 c4)).setCell ⟨w.heap.size, 3, none⟩ (.slice none 0 0)).setCell ⟨w.heap.size, 4, none⟩ (.slice A5 j c5)) = w5
     intro HW5 HP
     obtain ⟨hf0, hf1, hf2, hf3, hf4, hfr⟩ := cells5 HW5.out
     refine bodyPost_ret (v := .tuple #[.agg #[.int .i64 2, .int .i64 6, .slice A4 0 c4, .slice none 0 0, .slice A5 j c5], .slice A0 lj.length c0]) ?_ rfl HP.out
     rw [results_cell_tmp rfl]; go_simp
  ·have HK0 : Hid (TK d ([] : List Int).length v w 2 6 (wdsK x 0) (.slice A4 0 c4) 0 (.slice none 0 0) [] ([] : List Int) (some ad) 0 wr) := LH (TK.begin hb4 hb7 HS.out.1 (by rw [wdsK_length]; exact HS.out.2.2) HT.out (Nat.le_refl _) HU.out.1)
   clear hb4 HS
   go_wp2_with fail
   clear hd0 hd1 hd2 hd3 hd4 hb7
   go_loopw [0, 12, 13, 14] (fun v0 v12 v13 v14 wr => ∃ (j : Nat) (lj : List Int) (A0 : Option Addr) (c0 : Nat) (A5 : Option Addr) (c5 : Nat) (rows : List (Tr × Value × Value × Value)), j ≤ q ∧ v12 = .int .i64 j ∧ v0 = .slice A0 lj.length c0 ∧ Hid (TK d ([] : List Int).length v w 2 6 (wdsK x 0) (.slice A4 0 c4) j (.slice A5 j c5) rows lj A0 c0 wr)) (fun _ v12 _ _ _ => q - (intOf v12).toNat)
   case atStart => exact ⟨0, ([] : List Int), (some ad), 0, none, 0, [], by omega, rfl, rfl, HK0⟩
   case round =>
    clear HK0
    obtain ⟨j, lj, A0, c0, A5, c5, rows, hj, rfl, rfl, HK⟩ := hrel
    obtain ⟨n0, n1, n2, n3, n4, nf⟩ := cells5 HK.out.nod
    by_cases hjt : j < q
    ·have hjt' : (j : Int) < x / 8 % 5 := by have := HQQ.out; omega
     have hwj : IntKind.i64.wrap ((j : Int) + 1) = (j : Int) + 1 := IntWalk.i64_in _ (by omega)
     have hwd : IntKind.i64.wrap ((deep : Int) - 1) = d := by rw [HDE.out.1]; exact IntWalk.i64_in _ (by have := HDE.out.1; have := HDE.out.2; omega)
     go_wp2_with fail
     refine (IH.out lj A0 c0 v wr (HV.out.grow HK.out.keep) HK.out.left (Nat.le_trans HK.out.le HU.out.2) HK.out.okl).mono ?_
     rintro e w4 ⟨t, B1, B2, B3, d1, d2, d3, l2, A2, c2, rfl, hg4, hf4, htn, htb, hl4, hle4, hok4, hsm4⟩
     have HM := LH (HK.out.called hg4 hf4)
     have HL := LH (And.intro hl4 (And.intro (Nat.le_trans hle4 HK.out.le) hok4))
     have HT2 := LH (And.intro htn htb)
     have HSM4 := LH hsm4
     clear hg4 hf4 htn htb hl4 hle4 hok4 hsm4 n0 n1 n2 n3 n4 nf
     have hga := (Keep.refl NoB w4).alloc (.cells #[.int .i64 t.kind, .int .i64 t.size, .slice B1 t.ws.length d1, .slice B2 t.bs.length d2, .slice B3 t.kids.length d3] 114)
     have hna := heap_alloc_new w4 (.cells #[.int .i64 t.kind, .int .i64 t.size, .slice B1 t.ws.length d1, .slice B2 t.bs.length d2, .slice B3 t.kids.length d3] 114)
     replace HM := LH (HM.out.grow hga)
     have HNA := LH hna
     clear hga hna
     obtain ⟨t0, t1, t2, t3, t4, tf⟩ := cells5 HNA.out
     obtain ⟨n0, n1, n2, n3, n4, nf⟩ := cells5 HM.out.nod
     have HSRC : Hid (((w4.alloc (.cells #[.int .i64 t.kind, .int .i64 t.size, .slice B1 t.ws.length d1, .slice B2 t.bs.length d2, .slice B3 t.kids.length d3] 114)).alloc (.cells #[.int .i64 t.kind, .int .i64 t.size, .slice B1 t.ws.length d1, .slice B2 t.bs.length d2, .slice B3 t.kids.length d3] 114)).heap[w4.heap.size + 1]? = some (.cells #[.int .i64 t.kind, .int .i64 t.size, .slice B1 t.ws.length d1, .slice B2 t.bs.length d2, .slice B3 t.kids.length d3] 114 (0, 0))) := LH (two_alloc w4 _ _).2.1
     have HSZ : Hid (w.heap.size + 2 ≤ ((w4.alloc (.cells #[.int .i64 t.kind, .int .i64 t.size, .slice B1 t.ws.length d1, .slice B2 t.bs.length d2, .slice B3 t.kids.length d3] 114)).alloc (.cells #[.int .i64 t.kind, .int .i64 t.size, .slice B1 t.ws.length d1, .slice B2 t.bs.length d2, .slice B3 t.kids.length d3] 114)).heap.size) := LH (by have := (gE HM.out.nod).1; simp at this ⊢; omega)
     go_wp2_with (at_builtin; refine wpList_app _ rfl _ _ 112 112 rfl (w.heap.size + 2) 114 (.agg #[.int .i64 0, .int .i64 0, .slice none 0 0, .slice none 0 0, .slice none 0 0]) 5 88 u_nodes info_node rfl (.slice A5 j c5) j (kcs rows) rfl (.slice (some ⟨w4.heap.size + 1, 0, none⟩) 1 1) 1 [.int .i64 t.kind, .int .i64 t.size, .slice B1 t.ws.length d1, .slice B2 t.bs.length d2, .slice B3 t.kids.length d3] rfl ?_ (by exact own_keep HM.out.own ((Keep.refl NoB _).alloc _) (fun _ _ h => h)) (by exact Src.ofSlice _ u_nodes ⟨w4.heap.size + 1, 0, none⟩ 1 1 _ rfl (World.news_of_block (cs := #[.int .i64 t.kind, .int .i64 t.size, .slice B1 t.ws.length d1, .slice B2 t.bs.length d2, .slice B3 t.kids.length d3]) (t := 114) (fr := (0, 0)) HSRC.out) (by simp [Value.oneCell'])) (by simp only [maxLen]; omega) (by omega) (by exact HSZ.out); intro v5 w5 hap; refine Hid.out ?_)
     refine LH ?_
     replace HM := LH (HM.out.grow ((Keep.refl NoB _).alloc (.cells #[.int .i64 t.kind, .int .i64 t.size, .slice B1 t.ws.length d1, .slice B2 t.bs.length d2, .slice B3 t.kids.length d3] 114)))
     have hfin := HM.out.appended (kid := (t, .slice B1 t.ws.length d1, .slice B2 t.bs.length d2, .slice B3 t.kids.length d3)) hap HK.out.len (fun x hx => by
      rcases List.mem_append.1 hx with e | e
      ·exact HK.out.ok x e
      ·rw [List.mem_singleton.1 e]; exact HT2.out) HL.out.1 HL.out.2.1 HL.out.2.2 (fun m9 h9 => ⟨fun x hx => by
      rcases List.mem_append.1 hx with e | e
      ·exact (HK.out.sm m9 h9).1 x e
      ·rw [List.mem_singleton.1 e]; exact (HSM4.out m9 h9).1, by
      have e1 := (HK.out.sm m9 h9).2
      have e2 := (HSM4.out m9 h9).2
      rw [List.map_append, List.sum_append]
      simp only [List.map_cons, List.map_nil, List.sum_cons, List.sum_nil]
      omega⟩)
     obtain ⟨A6, c6, rfl, _⟩ := own_slice hap.own
     have HF := LH hfin.1
     clear n0 n1 n2 n3 n4 nf t0 t1 t2 t3 t4 tf hap
     obtain ⟨n0, n1, n2, n3, n4, nf⟩ := cells5 hfin.2
     clear hfin
     go_wp2
     go_roundw
     case rel => exact ⟨j + 1, l2, A2, c2, A6, c6, _, by omega, by go_num, rfl, HF⟩
     case measure => simp [intOf]; omega
    ·obtain rfl : j = q := by omega
     have hjt' : ¬ ((j : Int) < x / 8 % 5) := by have := HQQ.out; omega
     obtain ⟨hf0, hf1, hf2, hf3, hf4, hfr⟩ := cells5 HK.out.res
     obtain ⟨hw5, -⟩ := stored5 (.int .i64 2) (.int .i64 6) (.slice A4 0 c4) (.slice none 0 0) (.slice A5 j c5) HK.out.keep (Nat.le_refl _) HK.out.res
     have HW5 := LH hw5
     have HP : Hid (TreePost deep (([] : List Int).length + 1) ([] : List Int).length v w (.returned (.tuple #[.agg #[.int .i64 2, .int .i64 6, .slice A4 0 c4, .slice none 0 0, .slice A5 j c5], .slice A0 lj.length c0])) (((((wr.setCell ⟨w.heap.size, 0, none⟩ (.int .i64 2)).setCell ⟨w.heap.size, 1, none⟩ (.int .i64 6)).setCell ⟨w.heap.size, 2, none⟩ (.slice A4 0 c4)).setCell ⟨w.heap.size, 3, none⟩ (.slice none 0 0)).setCell ⟨w.heap.size, 4, none⟩ (.slice A5 j c5))) :=
      LH (HK.out.post (by have := HDE.out.1; omega) (by rw [wdsK_length]; simp [ownB]; omega) (by rw [wdsK_length]; simp [needN]; omega) (wdsK_length x 0) (keepN5 _ _ _ _ _) (by rw [wdsK_length]; omega) (wdsK_num x 0) (by omega))
     clear hw5
     go_wp2
     revert HW5 HP
     generalize (((((wr.setCell ⟨w.heap.size, 0, none⟩ (.int .i64 2)).setCell ⟨w.heap.size, 1, none⟩ (.int .i64 6)).setCell ⟨w.heap.size, 2, none⟩ (.slice A4 0 c4)).setCell ⟨w.heap.size, 3, none⟩ (.slice none 0 0)).setCell ⟨w.heap.size, 4, none⟩ (.slice A5 j c5)) = w5
     intro HW5 HP
     obtain ⟨hf0, hf1, hf2, hf3, hf4, hfr⟩ := cells5 HW5.out
     refine bodyPost_ret (v := .tuple #[.agg #[.int .i64 2, .int .i64 6, .slice A4 0 c4, .slice none 0 0, .slice A5 j c5], .slice A0 lj.length c0]) ?_ rfl HP.out
     rw [results_cell_tmp rfl]; go_simp
theorem TreePost.mono {d L n m : Nat} (hnm : n ≤ m) {v w : World} {e : Ending} {w' : World} (h : TreePost d L n v w e w') : TreePost d L m v w e w' := by
 obtain ⟨t, A1, A2, A3, c1, c2, c3, l', A', c', h1, h2, h3, h4, h5, h6, h7, h8⟩ := h
 exact ⟨t, A1, A2, A3, c1, c2, c3, l', A', c', h1, h2, h3, h4, h5, h6, Nat.le_trans h7 hnm, h8⟩
theorem tree_all : ∀ d : Nat, d ≤ 1000 → TreeAt d
 | 0, _ => fun l A c v w hv h hl hu => tree_end l A c 0 v w h hl hu (.inr rfl) 0
 | d + 1, hd => by
  intro l A c v w hv h hl hu
  have IH : Hid (TreeAt d) := LH (tree_all d (by omega))
  cases l with
  | nil => exact tree_end [] A c _ v w h hl hu (.inl rfl) _
  | cons x r =>
   have hx := hu x (List.mem_cons_self ..)
   have hur : okU r := fun y hy => hu y (List.mem_cons_of_mem _ hy)
   have hlr : r.length ≤ 1000000 := by simp at hl; omega
   obtain ⟨ad, rfl⟩ : ∃ ad, A = some ad := by
    obtain ⟨A9, c9, e9, _, _, _, hq⟩ := h
    injection e9 with e1 _ _
    obtain ⟨ad, ha, _⟩ := hq 0 (.int .u8 x) rfl
    exact ⟨ad, e1.trans ha⟩
   have hdd : (d + 1 : Nat) ≠ 0 := by omega
   have hde : (((d + 1 : Nat) : Int)) - 1 = d := by omega
   have hcs : x % 8 = 0 ∨ (x % 8 = 1 ∨ x % 8 = 2) ∨ x % 8 = 3 ∨ (4 ≤ x % 8 ∧ x % 8 ≤ 6) ∨ x % 8 = 7 := by omega
   by_cases hc1 : c = 1
   ·subst hc1
    obtain rfl : r = [] := by
     obtain ⟨_, _, e, h2, _⟩ := h
     injection e with _ _ e3
     simp at h2
     exact List.eq_nil_of_length_eq_zero (by omega)
    have hm0 : ∀ {e w'}, TreePost (d + 1) (([] : List Int).length + 1) ([] : List Int).length v w e w' → TreePost (d + 1) [x].length [x].length v w e w' := fun hp => hp.mono (by simp)
    rcases hcs with hc | hc | hc | hc | hc
    ·exact (tree0_eq x ad (d + 1) v w hv h hx hdd hc).mono (fun _ _ hp => hm0 hp)
    ·exact (tree12_eq x ad (d + 1) v w hv h hx hdd (3 * (x / 8 % 5) + x % 2).toNat (by omega) hc).mono (fun _ _ hp => hm0 hp)
    ·exact (tree3_eq x ad (d + 1) v w hv h hx hdd (x / 8 % 5).toNat (by omega) hc).mono (fun _ _ hp => hm0 hp)
    ·exact (tree4_eq x ad (d + 1) v w hv h hx hdd d hde hd IH (x / 8 % 5).toNat (by omega) hc (x / 64).toNat (by omega)).mono (fun _ _ hp => hm0 hp)
    ·exact (tree7_eq x ad (d + 1) v w hv h hx hdd d hde hd IH (x / 8 % 5).toNat (by omega) hc 0 rfl).mono (fun _ _ hp => hm0 hp)
   ·have hm0 : ∀ {e w'}, TreePost (d + 1) (r.length + 1) r.length v w e w' → TreePost (d + 1) (x :: r).length (x :: r).length v w e w' := fun hp => hp.mono (by simp)
    have hn : (x :: r).length = r.length + 1 := rfl
    generalize (x :: r).length = n at h hn hm0 ⊢
    rcases hcs with hc | hc | hc | hc | hc
    ·exact (tree0_ne x r ad n c (d + 1) v w hv h hn hlr hx hur hdd hc1 hc).mono (fun _ _ hp => hm0 hp)
    ·exact (tree12_ne x r ad n c (d + 1) v w hv h hn hlr hx hur hdd hc1 (3 * (x / 8 % 5) + x % 2).toNat (by omega) hc).mono (fun _ _ hp => hm0 hp)
    ·exact (tree3_ne x r ad n c (d + 1) v w hv h hn hlr hx hur hdd hc1 (x / 8 % 5).toNat (by omega) hc).mono (fun _ _ hp => hm0 hp)
    ·exact (tree4_ne x r ad n c (d + 1) v w hv h hn hlr hx hur hdd hc1 d hde hd IH (x / 8 % 5).toNat (by omega) hc (x / 64).toNat (by omega)).mono (fun _ _ hp => hm0 hp)
    ·exact (tree7_ne x r ad n c (d + 1) v w hv h hn hlr hx hur hdd hc1 d hde hd IH (x / 8 % 5).toNat (by omega) hc 0 rfl).mono (fun _ _ hp => hm0 hp)
def BentFit (w : World) (e : Ending) (w' : World) : Prop := ∃ (a : List (List Int)) (A : Option Addr) (c : Nat), e = .returned (.slice A a.length c) ∧ Grow w w' ∧ OkA a ∧ fitsB (szs a) = true ∧ RowsR .u64 a (.slice A a.length c) w'
theorem OkA.of_lim {a : List (List Int)} (h : LimA a) (hn : NumA a) : OkA a := ⟨by have := h.1; omega, fun s hs => by have := h.2 s hs; omega, fun s hs x hx => hn s hs x hx⟩
theorem bent_fits (l : List Int) (A : Option Addr) (c : Nat) (k : Int) (w : World) (h : SliceR 1 (.slice A l.length c) l.length (u8s l) w) (hl : l.length ≤ 100) (hu : okU l) (hk0 : 0 ≤ k) (hk1 : k ≤ 255) :
    Calls Tryz.prog 15 #[.slice A l.length c, .slice none 0 0, .int .u8 k] w (BentFit w) := by
 have hc : l.length ≤ c := by
  obtain ⟨_, _, e, h2, _⟩ := h
  injection e with _ _ e3
  omega
 have hT := tree_all 6 (by omega) l A c w w (Keep.refl NoB w) h (by omega) hu
 rw [show ((6 : Nat) : Int) = 6 from rfl] at hT
 have HT := LH hT
 have hlt : ((l.length : Nat) : Int) < 200 := by omega
 have hle : ((l.length : Nat) : Int) ≤ 200 := by omega
 have hge : ¬ (200 : Int) ≤ ((l.length : Nat) : Int) := by omega
 have hk2 : 0 ≤ k % 30 := by omega
 have hk3 : k % 30 ≤ 29 := by omega
 have hkw : IntKind.i64.wrap (3 + k % 30) = 3 + k % 30 := IntWalk.i64_in _ (by omega)
 have hmin : min ((l.length : Nat) : Int) 200 = ((l.length : Nat) : Int) := Int.min_eq_left hle
 clear h hu hT
 go_enter Tryz.func15, Tryz.ntmps15
 go_wp2_with fail
 refine HT.out.mono ?_
 rintro e w1 ⟨t, A1, A2, A3, c1, c2, c3, l', A', c', rfl, hg, hf, hN, hB, _, _, _, hTN⟩
 have HTN : Hid (rightB 32 t = true ∧ (needL 32 t : Int) ≤ 700) := LH ⟨(hTN 32 (by omega)).1, by have := (hTN 32 (by omega)).2; omega⟩
 have HF := LH (hf.now.grow ((Keep.refl NoB w1).alloc (.cells #[.int .i64 t.kind, .int .i64 t.size, .slice A1 t.ws.length c1, .slice A2 t.bs.length c2, .slice A3 t.kids.length c3] 114)))
 have HNB := LH (And.intro hN hB)
 have HG := LH (hg.alloc (.cells #[.int .i64 t.kind, .int .i64 t.size, .slice A1 t.ws.length c1, .slice A2 t.bs.length c2, .slice A3 t.kids.length c3] 114))
 have HC := LH (heap_alloc_new w1 (.cells #[.int .i64 t.kind, .int .i64 t.size, .slice A1 t.ws.length c1, .slice A2 t.bs.length c2, .slice A3 t.kids.length c3] 114))
 clear hg hf hN hB HT hTN
 go_wp2_with fail
 refine (rbuild_calls t _ _ _ (3 + k % 30) _ HF.out HNB.out.2 HNB.out.1 (by omega) (by omega)).mono ?_
 rintro e w2 ⟨hg2, hr⟩
 have HF2 := LH (HF.out.grow hg2)
 replace HG := LH (HG.out.grow hg2)
 replace HC := LH (Grow.heap hg2 HC.out)
 clear hg2
 rcases hr with ⟨r, hr, rfl, -⟩ | ⟨a, Aa, ca, rfl, hlim, hnum, hone, hrows⟩
 ·have hrb : (r != 0) = true := by simp [hr]
  obtain ⟨n0, n1, n2, n3, n4, nf⟩ := cells5 HC.out
  clear hr
  go_wp2_with fail
  refine (rbuild_calls t _ _ _ 4096 _ HF2.out HNB.out.2 HNB.out.1 (by omega) (by omega)).mono ?_
  rintro e w3 ⟨hg3, hr⟩
  replace HG := LH (HG.out.grow hg3)
  clear hg3 n0 n1 n2 n3 n4 nf
  rcases hr with ⟨r2, hr, rfl, hno⟩ | ⟨a, Aa, ca, rfl, hlim, hnum, hone, hrows⟩
  ·have := hno HTN.out.1
   have := HTN.out.2
   omega
  ·have HFIN : Hid (BentFit w (.returned (.slice Aa a.length ca)) w3) := LH ⟨a, Aa, ca, rfl, HG.out, OkA.of_lim hlim hnum, hone, hrows⟩
   clear hlim hnum hone hrows
   go_wp2_with fail
   go_loopw [13] (fun v wr => v = .int .i64 0 ∧ wr = w3) (fun _ _ => 0)
   case atStart => exact ⟨rfl, rfl⟩
   case round =>
    obtain ⟨rfl, rfl⟩ := hrel
    go_wp2
    go_ret
    exact HFIN.out
 ·have HFIN : Hid (BentFit w (.returned (.slice Aa a.length ca)) w2) := LH ⟨a, Aa, ca, rfl, HG.out, OkA.of_lim hlim hnum, hone, hrows⟩
  clear hlim hnum hone hrows
  go_wp2_with fail
  go_loopw [13] (fun v wr => v = .int .i64 0 ∧ wr = w2) (fun _ _ => 0)
  case atStart => exact ⟨rfl, rfl⟩
  case round =>
   obtain ⟨rfl, rfl⟩ := hrel
   go_wp2
   go_ret
   exact HFIN.out
theorem okU_wf {l : List Int} (h : ∀ x ∈ l, (Lit.int .u8 x).wf = true) : okU l := fun x hx => by
 simpa [Lit.wf, show IntKind.u8.min = 0 from rfl, show IntKind.u8.max = 255 from rfl] using h x hx
end Go.Proofs.YtfkcpaahdlkcdaaGreat

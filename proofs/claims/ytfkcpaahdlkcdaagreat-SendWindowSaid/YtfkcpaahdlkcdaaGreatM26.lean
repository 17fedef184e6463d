import Derived.Test.YtfkcpaahdlkcdaaGreatM25
/-! Joined: SqZ. -/
set_option linter.unusedSimpArgs false
set_option linter.unusedVariables false
namespace Go.Proofs.YtfkcpaahdlkcdaaGreat
open Go.RowKit

set_option maxRecDepth 100000 in
set_option maxHeartbeats 8000000 in
theorem tree4_ne (x : Int) (l : List Int) (ad : Addr) (n c : Nat) (deep : Nat) (v w : World) (hv : Grow v w) (h : SliceR 1 (.slice (some ad) n c) n (u8s (x :: l)) v) (hn : n = l.length + 1) (hl : l.length ≤ 1000000) (hx : 0 ≤ x ∧ x ≤ 255) (hu : okU l) (hd : deep ≠ 0) (hc1 : ¬ (c = 1)) (d : Nat) (hde : (deep : Int) - 1 = d) (hdl : deep ≤ 1000) (IH : Hid (TreeAt d)) (q : Nat) (hqq : (q : Int) = x / 8 % 5) (hm : 4 ≤ x % 8 ∧ x % 8 ≤ 6) (m : Nat) (hmm : (m : Int) = x / 64) :
    Calls Tryz.prog 56 #[(.slice (some ad) n c), .int .i64 deep] w (TreePost l.length v w) := by
  have HV := Lib.hid hv
  have HT := Lib.hid (h.tail2 hn hc1)
  have hcell0 : v.cell? ad = some (.int .u8 x) := by
    obtain ⟨A9, c9, e9, _, _, _, hq⟩ := h
    injection e9 with e9 _ _
    obtain ⟨a9, e8, hc⟩ := hq 0 (.int .u8 x) rfl
    rw [← e9] at e8
    injection e8 with e8
    subst e8
    rw [Addr.add_zero'] at hc
    exact hc
  have hcell := hv.cell hcell0 (fun h => h)
  clear hcell0 hv
  have hc : n ≤ c := by
    obtain ⟨_, _, e, h2, _⟩ := h
    injection e with _ e2 e3
    omega
  have hq : (((n : Nat) : Int) == 0) = false := beq_eq_false_iff_ne.2 (by omega)
  have hn1 : (1 : Int) ≤ n := by omega
  have hn0 : (0 : Int) < n := by omega
  have HN2 := Lib.hid hn
  have HLN : Hid (n - 1 = l.length) := Lib.hid (by omega)
  have hdq : (((deep : Nat) : Int) == 0) = false := beq_eq_false_iff_ne.2 (by omega)
  have hmb : (x % 8 == 0) = false := beq_eq_false_iff_ne.2 (by omega)
  have hm1 : (x % 8 == 1) = false := beq_eq_false_iff_ne.2 (by omega)
  have hm2 : (x % 8 == 2) = false := beq_eq_false_iff_ne.2 (by omega)
  have hm3 : (x % 8 == 3) = false := beq_eq_false_iff_ne.2 (by omega)
  have hm6 : ¬ (6 < x % 8) := by omega
  have HMM := Lib.hid hmm
  have HQQ := Lib.hid hqq
  have hm9 : m ≤ 20 := by omega
  have hq9 : q ≤ 4 := by omega
  have HU : Hid (okU l ∧ l.length ≤ 1000000) := Lib.hid ⟨hu, by omega⟩
  have HDE := Lib.hid (And.intro hde hdl)
  have hga := (Keep.refl NoB w).alloc (.cells #[.int .i64 0, .int .i64 0, .slice none 0 0, .slice none 0 0, .slice none 0 0] 114)
  have hgb := hga.alloc (.cells #[.int .i64 0, .int .i64 0, .slice none 0 0, .slice none 0 0, .slice none 0 0] 114)
  have hcell2 := hga.cell hcell (fun h => h)
  have HX : Hid (0 ≤ x ∧ x ≤ 255) := Lib.hid hx
  obtain ⟨hx1, hx2⟩ := hx
  have HN9 := Lib.hid hn
  clear h hm hmm hqq hd hn hcell hga hgb hu hde hdl
  go_enter Tryz.func56, Tryz.ntmps56
  go_wp2_with fail
  have hy1 : 0 ≤ x / 8 % 5 := by omega
  have hy2 : x / 8 % 5 ≤ 4 := by omega
  have hz1 : 0 ≤ x / 64 := by omega
  have hz2 : x / 64 ≤ 3 := by omega
  go_loopw [11] (fun v wr => ∃ k : Nat, k ≤ m ∧ v = .int .i64 k ∧ ∃ A4 c4, wr.heap[w.heap.size]? = some (.cells #[.int .i64 0, .int .i64 0, .slice none 0 0, .slice none 0 0, .slice none 0 0] 114 (0, 0)) ∧ wr.heap[w.heap.size + 1]? = some (.cells #[.int .i64 1, .int .i64 0, .slice A4 k c4, .slice none 0 0, .slice none 0 0] 114 (0, 0)) ∧ Hid (Grow w wr ∧ w.heap.size + 2 ≤ wr.heap.size ∧ wr.ownsRow (w.heap.size + 2) 22 1 (.slice A4 k c4) k (u64s (wdsK x k)))) (fun v _ => m - (intOf v).toNat)
  case atStart => exact ⟨0, by omega, rfl, none, 0, (two_alloc w _ _).1, (two_alloc w _ _).2.1, ((Keep.refl NoB w).alloc _).alloc _, Nat.le_of_eq (two_alloc w _ _).2.2.symm, World.ownsRow_nil _ (w.heap.size + 2) 22 1⟩
  case round =>
    obtain ⟨k, hk, rfl, A4, c4, hb4, hb7, HS⟩ := hrel
    have hwb : IntKind.i64.wrap (x / 8 % 5) = x / 8 % 5 := IntWalk.i64_in _ (by omega)
    have hwc : IntKind.i64.wrap (x / 64) = x / 64 := IntWalk.i64_in _ (by omega)
    have hd0 : wr.cell? ⟨w.heap.size + 1, 0, none⟩ = _ := World.news_of_block hb7 0 _ rfl
    have hd1 : wr.cell? ⟨w.heap.size + 1, 1, none⟩ = _ := World.news_of_block hb7 1 _ rfl
    have hd2 : wr.cell? ⟨w.heap.size + 1, 2, none⟩ = _ := World.news_of_block hb7 2 _ rfl
    have hd3 : wr.cell? ⟨w.heap.size + 1, 3, none⟩ = _ := World.news_of_block hb7 3 _ rfl
    have hd4 : wr.cell? ⟨w.heap.size + 1, 4, none⟩ = _ := World.news_of_block hb7 4 _ rfl
    by_cases hlt : k < m
    · have hw : IntKind.i64.wrap ((k : Int) + 1) = (k : Int) + 1 := IntWalk.i64_in _ (by omega)
      have hw8 : IntKind.i64.wrap (8 * (k : Int)) = 8 * (k : Int) := IntWalk.i64_in _ (by omega)
      have hw9 : IntKind.u64.wrap (8 * (k : Int)) = 8 * (k : Int) := IntWalk.u64_in _ (by omega)
      have hlt' : (k : Int) < x / 64 := by have := HMM.out; omega
      have hk9 : (k : Int) ≤ 255 := by omega
      have E1 := Lib.hid (wdsK_succ x k)
      go_wp2_with (at_builtin; refine wpList_app _ rfl _ _ 111 111 rfl (w.heap.size + 2) 22 (.int .u64 0) 1 8 u_u64s info_u64 rfl (.slice A4 k c4) k (u64s (wdsK x k)) rfl (.slice (some ⟨wr.heap.size, 0, none⟩) 1 1) 1 [.int .u64 (IntKind.u64.wrap (IntKind.u64.wrap (x * 2 ^ (8 * k)) + k))] rfl ?_ (by exact own_keep HS.out.2.2 ((Keep.refl NoB wr).alloc _) (fun _ _ h => h)) (by exact Src.ofSlice _ u_u64s ⟨wr.heap.size, 0, none⟩ 1 1 _ rfl (World.news_of_block (cs := #[.int .u64 (IntKind.u64.wrap (IntKind.u64.wrap (x * 2 ^ (8 * k)) + k))]) (t := 22) (fr := (0, 0)) (heap_alloc_new wr _)) (by simp [Value.oneCell'])) (by simp only [maxLen]; omega) (by omega) (by have := HS.out.2.1; simp; omega); intro v3 w3 hap; refine Hid.out ?_)
      refine Lib.hid ?_
      have Hg3 : Hid (Grow w w3 ∧ w.heap.size + 2 ≤ w3.heap.size) := ⟨((((HS.out.1.mono (T := fun k => w.heap.size + 2 ≤ k) (fun _ h => h.elim)).alloc _).grown hap.grew (fun k hk => .inl (HS.out.2.2.lt k hk).1))).new (fun _ h => by omega), by have h1 := HS.out.2.1; have h2 := hap.grew.size; simp at h2; omega⟩
      have HK := ((Keep.refl (fun k => w.heap.size + 2 ≤ k) wr).alloc (.cells #[.int .u64 (IntKind.u64.wrap (IntKind.u64.wrap (x * 2 ^ (8 * k)) + k))] 22)).grown hap.grew (fun k hk => .inl (HS.out.2.2.lt k hk).1)
      have hs2 := HS.out.2.1
      have hc4 := (HK.block w.heap.size (by omega) (by omega)).trans hb4
      have hc7 := (HK.block (w.heap.size + 1) (by omega) (by omega)).trans hb7
      have Ho3 := Lib.hid hap.own
      obtain ⟨A6, c6, rfl, _⟩ := own_slice hap.own
      have hlb : ∀ q, (Value.slice A6 (k + 1) c6).ownBlock = some q → w.heap.size + 2 ≤ q := fun q hq => (hap.own.lt q hq).1
      clear hap HK
      rw [← E1.out] at Ho3
      have hd3' : w3.cell? ⟨w.heap.size + 1, 2, none⟩ = _ := World.news_of_block hc7 2 _ rfl
      have hfr : ∀ o, w3.frozen? ⟨w.heap.size + 1, o, none⟩ = false := fun o => frozen0 o hc7
      have Hc := Lib.hid hc4
      have Hc' := Lib.hid hc7
      have Hlb := Lib.hid hlb
      clear hd0 hd1 hd2 hd3 hd4 hb4 hb7 hc4 hc7 hlb
      go_wp2
      go_roundw
      case rel =>
        have hkk : Keep (fun q => q = w.heap.size + 1) w3 (w3.setCell ⟨w.heap.size + 1, 2, none⟩ (.slice A6 (k + 1) c6)) := (Keep.refl (fun q => q = w.heap.size + 1) w3).setCell (p := ⟨w.heap.size + 1, 2, none⟩) (.inl rfl) _
        refine ⟨k + 1, by omega, by go_num, A6, c6, (hkk.block w.heap.size (by have := Hg3.out.2; omega) (by simp)).trans Hc.out, ?_, Hg3.out.1.setCell (.inr (by simp)) _, Nat.le_trans Hg3.out.2 hkk.size, own_keep Ho3.out hkk (fun q hq => by have := Hlb.out q hq; omega)⟩
        have hq := Hc'.out
        simp only [World.setCell, Array.getElem?_modify]
        simp [hq]
      case measure => simp [intOf]; omega
    obtain rfl : k = m := by omega
    have hlt' : ¬ ((k : Int) < x / 64) := by have := HMM.out; omega
    have HK0 : Hid (TK l.length v w 1 0 (wdsK x k) (.slice A4 k c4) 0 (.slice none 0 0) [] l (some ⟨ad.block, ad.off + 1, none⟩) (c - 1) wr) := Lib.hid (TK.begin hb4 hb7 HS.out.1 (by rw [wdsK_length]; exact HS.out.2.2) (by have := HT.out; rw [HLN.out] at this; exact this) (Nat.le_refl _) HU.out.1)
    clear hb4 HS
    go_wp2_with fail
    clear hd0 hd1 hd2 hd3 hd4 hb7
    go_loopw [0, 12, 13, 14] (fun v0 v12 v13 v14 wr => ∃ (j : Nat) (lj : List Int) (A0 : Option Addr) (c0 : Nat) (A5 : Option Addr) (c5 : Nat) (rows : List (Tr × Value × Value × Value)), j ≤ q ∧ v12 = .int .i64 j ∧ v0 = .slice A0 lj.length c0 ∧ Hid (TK l.length v w 1 0 (wdsK x k) (.slice A4 k c4) j (.slice A5 j c5) rows lj A0 c0 wr)) (fun _ v12 _ _ _ => q - (intOf v12).toNat)
    case atStart => exact ⟨0, l, (some ⟨ad.block, ad.off + 1, none⟩), (c - 1), none, 0, [], by omega, rfl, (by rw [HLN.out]), HK0⟩
    case round =>
      clear HK0
      obtain ⟨j, lj, A0, c0, A5, c5, rows, hj, rfl, rfl, HK⟩ := hrel
      obtain ⟨n0, n1, n2, n3, n4, nf⟩ := cells5 HK.out.nod
      by_cases hjt : j < q
      · have hjt' : (j : Int) < x / 8 % 5 := by have := HQQ.out; omega
        have hwj : IntKind.i64.wrap ((j : Int) + 1) = (j : Int) + 1 := IntWalk.i64_in _ (by omega)
        have hwd : IntKind.i64.wrap ((deep : Int) - 1) = d := by rw [HDE.out.1]; exact IntWalk.i64_in _ (by have := HDE.out.1; have := HDE.out.2; omega)
        go_wp2_with fail
        refine (IH.out lj A0 c0 v wr (HV.out.grow HK.out.keep) HK.out.left (Nat.le_trans HK.out.le HU.out.2) HK.out.okl).mono ?_
        rintro e w4 ⟨t, B1, B2, B3, d1, d2, d3, l2, A2, c2, rfl, hg4, hf4, htn, htb, hl4, hle4, hok4⟩
        have HM := Lib.hid (HK.out.called hg4 hf4)
        have HL := Lib.hid (And.intro hl4 (And.intro (Nat.le_trans hle4 HK.out.le) hok4))
        have HT2 := Lib.hid (And.intro htn htb)
        clear hg4 hf4 htn htb hl4 hle4 hok4 n0 n1 n2 n3 n4 nf
        have hga := (Keep.refl NoB w4).alloc (.cells #[.int .i64 t.kind, .int .i64 t.size, .slice B1 t.ws.length d1, .slice B2 t.bs.length d2, .slice B3 t.kids.length d3] 114)
        have hna := heap_alloc_new w4 (.cells #[.int .i64 t.kind, .int .i64 t.size, .slice B1 t.ws.length d1, .slice B2 t.bs.length d2, .slice B3 t.kids.length d3] 114)
        replace HM := Lib.hid (HM.out.grow hga)
        have HNA := Lib.hid hna
        clear hga hna
        obtain ⟨t0, t1, t2, t3, t4, tf⟩ := cells5 HNA.out
        obtain ⟨n0, n1, n2, n3, n4, nf⟩ := cells5 HM.out.nod
        have HSRC : Hid (((w4.alloc (.cells #[.int .i64 t.kind, .int .i64 t.size, .slice B1 t.ws.length d1, .slice B2 t.bs.length d2, .slice B3 t.kids.length d3] 114)).alloc (.cells #[.int .i64 t.kind, .int .i64 t.size, .slice B1 t.ws.length d1, .slice B2 t.bs.length d2, .slice B3 t.kids.length d3] 114)).heap[w4.heap.size + 1]? = some (.cells #[.int .i64 t.kind, .int .i64 t.size, .slice B1 t.ws.length d1, .slice B2 t.bs.length d2, .slice B3 t.kids.length d3] 114 (0, 0))) := Lib.hid (two_alloc w4 _ _).2.1
        have HSZ : Hid (w.heap.size + 2 ≤ ((w4.alloc (.cells #[.int .i64 t.kind, .int .i64 t.size, .slice B1 t.ws.length d1, .slice B2 t.bs.length d2, .slice B3 t.kids.length d3] 114)).alloc (.cells #[.int .i64 t.kind, .int .i64 t.size, .slice B1 t.ws.length d1, .slice B2 t.bs.length d2, .slice B3 t.kids.length d3] 114)).heap.size) := Lib.hid (by have := (Array.getElem?_eq_some_iff.1 HM.out.nod).1; simp at this ⊢; omega)
        go_wp2_with (at_builtin; refine wpList_app _ rfl _ _ 112 112 rfl (w.heap.size + 2) 114 (.agg #[.int .i64 0, .int .i64 0, .slice none 0 0, .slice none 0 0, .slice none 0 0]) 5 88 u_nodes info_node rfl (.slice A5 j c5) j (kcs rows) rfl (.slice (some ⟨w4.heap.size + 1, 0, none⟩) 1 1) 1 [.int .i64 t.kind, .int .i64 t.size, .slice B1 t.ws.length d1, .slice B2 t.bs.length d2, .slice B3 t.kids.length d3] rfl ?_ (by exact own_keep HM.out.own ((Keep.refl NoB _).alloc _) (fun _ _ h => h)) (by exact Src.ofSlice _ u_nodes ⟨w4.heap.size + 1, 0, none⟩ 1 1 _ rfl (World.news_of_block (cs := #[.int .i64 t.kind, .int .i64 t.size, .slice B1 t.ws.length d1, .slice B2 t.bs.length d2, .slice B3 t.kids.length d3]) (t := 114) (fr := (0, 0)) HSRC.out) (by simp [Value.oneCell'])) (by simp only [maxLen]; omega) (by omega) (by exact HSZ.out); intro v5 w5 hap; refine Hid.out ?_)
        refine Lib.hid ?_
        replace HM := Lib.hid (HM.out.grow ((Keep.refl NoB _).alloc (.cells #[.int .i64 t.kind, .int .i64 t.size, .slice B1 t.ws.length d1, .slice B2 t.bs.length d2, .slice B3 t.kids.length d3] 114)))
        have hfin := HM.out.appended (kid := (t, .slice B1 t.ws.length d1, .slice B2 t.bs.length d2, .slice B3 t.kids.length d3)) hap HK.out.len (fun x hx => by
          rcases List.mem_append.1 hx with e | e
          · exact HK.out.ok x e
          · rw [List.mem_singleton.1 e]; exact HT2.out) HL.out.1 HL.out.2.1 HL.out.2.2
        obtain ⟨A6, c6, rfl, _⟩ := own_slice hap.own
        have HF := Lib.hid hfin.1
        clear n0 n1 n2 n3 n4 nf t0 t1 t2 t3 t4 tf hap
        obtain ⟨n0, n1, n2, n3, n4, nf⟩ := cells5 hfin.2
        clear hfin
        go_wp2
        go_roundw
        case rel => exact ⟨j + 1, l2, A2, c2, A6, c6, _, by omega, by go_num, rfl, HF⟩
        case measure => simp [intOf]; omega
      · obtain rfl : j = q := by omega
        have hjt' : ¬ ((j : Int) < x / 8 % 5) := by have := HQQ.out; omega
        obtain ⟨hf0, hf1, hf2, hf3, hf4, hfr⟩ := cells5 HK.out.res
        obtain ⟨hw5, -⟩ := stored5 (.int .i64 1) (.int .i64 0) (.slice A4 k c4) (.slice none 0 0) (.slice A5 j c5) HK.out.keep (Nat.le_refl _) HK.out.res
        have HW5 := Lib.hid hw5
        have HP : Hid (TreePost l.length v w (.returned (.tuple #[.agg #[.int .i64 1, .int .i64 0, .slice A4 k c4, .slice none 0 0, .slice A5 j c5], .slice A0 lj.length c0])) (((((wr.setCell ⟨w.heap.size, 0, none⟩ (.int .i64 1)).setCell ⟨w.heap.size, 1, none⟩ (.int .i64 0)).setCell ⟨w.heap.size, 2, none⟩ (.slice A4 k c4)).setCell ⟨w.heap.size, 3, none⟩ (.slice none 0 0)).setCell ⟨w.heap.size, 4, none⟩ (.slice A5 j c5))) :=
          Lib.hid (HK.out.post (wdsK_length x k) (keepN5 _ _ _ _ _) (by rw [wdsK_length]; omega) (wdsK_num x k) (by omega))
        clear hw5
        go_wp2
        revert HW5 HP
        generalize (((((wr.setCell ⟨w.heap.size, 0, none⟩ (.int .i64 1)).setCell ⟨w.heap.size, 1, none⟩ (.int .i64 0)).setCell ⟨w.heap.size, 2, none⟩ (.slice A4 k c4)).setCell ⟨w.heap.size, 3, none⟩ (.slice none 0 0)).setCell ⟨w.heap.size, 4, none⟩ (.slice A5 j c5)) = w5
        intro HW5 HP
        obtain ⟨hf0, hf1, hf2, hf3, hf4, hfr⟩ := cells5 HW5.out
        refine bodyPost_ret (v := .tuple #[.agg #[.int .i64 1, .int .i64 0, .slice A4 k c4, .slice none 0 0, .slice A5 j c5], .slice A0 lj.length c0]) ?_ rfl HP.out
        rw [results_cell_tmp rfl]; go_simp
set_option maxRecDepth 100000 in
set_option maxHeartbeats 8000000 in
theorem tree4_eq (x : Int) (ad : Addr) (deep : Nat) (v w : World) (hv : Grow v w) (h : SliceR 1 (.slice (some ad) 1 1) 1 (u8s [x]) v) (hx : 0 ≤ x ∧ x ≤ 255) (hd : deep ≠ 0) (d : Nat) (hde : (deep : Int) - 1 = d) (hdl : deep ≤ 1000) (IH : Hid (TreeAt d)) (q : Nat) (hqq : (q : Int) = x / 8 % 5) (hm : 4 ≤ x % 8 ∧ x % 8 ≤ 6) (m : Nat) (hmm : (m : Int) = x / 64) :
    Calls Tryz.prog 56 #[(.slice (some ad) 1 1), .int .i64 deep] w (TreePost ([] : List Int).length v w) := by
  have HV := Lib.hid hv
  have HT : Hid (SliceR 1 (.slice (some ad) 0 0) 0 (u8s []) v) := Lib.hid ⟨some ad, 0, rfl, Nat.le_refl _, by simp [u8s], fun _ => rfl, fun j u hu => by simp [u8s] at hu⟩
  have hcell0 : v.cell? ad = some (.int .u8 x) := by
    obtain ⟨A9, c9, e9, _, _, _, hq⟩ := h
    injection e9 with e9 _ _
    obtain ⟨a9, e8, hc⟩ := hq 0 (.int .u8 x) rfl
    rw [← e9] at e8
    injection e8 with e8
    subst e8
    rw [Addr.add_zero'] at hc
    exact hc
  have hcell := hv.cell hcell0 (fun h => h)
  clear hcell0 hv
  have hu : okU [] := fun y hy => by cases hy
  have hn : 0 = ([] : List Int).length := rfl
  have hdq : (((deep : Nat) : Int) == 0) = false := beq_eq_false_iff_ne.2 (by omega)
  have hmb : (x % 8 == 0) = false := beq_eq_false_iff_ne.2 (by omega)
  have hm1 : (x % 8 == 1) = false := beq_eq_false_iff_ne.2 (by omega)
  have hm2 : (x % 8 == 2) = false := beq_eq_false_iff_ne.2 (by omega)
  have hm3 : (x % 8 == 3) = false := beq_eq_false_iff_ne.2 (by omega)
  have hm6 : ¬ (6 < x % 8) := by omega
  have HMM := Lib.hid hmm
  have HQQ := Lib.hid hqq
  have hm9 : m ≤ 20 := by omega
  have hq9 : q ≤ 4 := by omega
  have HU : Hid (okU ([] : List Int) ∧ ([] : List Int).length ≤ 1000000) := Lib.hid ⟨hu, by simp⟩
  have HDE := Lib.hid (And.intro hde hdl)
  have hga := (Keep.refl NoB w).alloc (.cells #[.int .i64 0, .int .i64 0, .slice none 0 0, .slice none 0 0, .slice none 0 0] 114)
  have hgb := hga.alloc (.cells #[.int .i64 0, .int .i64 0, .slice none 0 0, .slice none 0 0, .slice none 0 0] 114)
  have hcell2 := hga.cell hcell (fun h => h)
  have HX : Hid (0 ≤ x ∧ x ≤ 255) := Lib.hid hx
  obtain ⟨hx1, hx2⟩ := hx
  have HN9 := Lib.hid hn
  clear h hm hmm hqq hd hn hcell hga hgb hu hde hdl
  go_enter Tryz.func56, Tryz.ntmps56
  go_wp2_with fail
  have hy1 : 0 ≤ x / 8 % 5 := by omega
  have hy2 : x / 8 % 5 ≤ 4 := by omega
  have hz1 : 0 ≤ x / 64 := by omega
  have hz2 : x / 64 ≤ 3 := by omega
  go_loopw [11] (fun v wr => ∃ k : Nat, k ≤ m ∧ v = .int .i64 k ∧ ∃ A4 c4, wr.heap[w.heap.size]? = some (.cells #[.int .i64 0, .int .i64 0, .slice none 0 0, .slice none 0 0, .slice none 0 0] 114 (0, 0)) ∧ wr.heap[w.heap.size + 1]? = some (.cells #[.int .i64 1, .int .i64 0, .slice A4 k c4, .slice none 0 0, .slice none 0 0] 114 (0, 0)) ∧ Hid (Grow w wr ∧ w.heap.size + 2 ≤ wr.heap.size ∧ wr.ownsRow (w.heap.size + 2) 22 1 (.slice A4 k c4) k (u64s (wdsK x k)))) (fun v _ => m - (intOf v).toNat)
  case atStart => exact ⟨0, by omega, rfl, none, 0, (two_alloc w _ _).1, (two_alloc w _ _).2.1, ((Keep.refl NoB w).alloc _).alloc _, Nat.le_of_eq (two_alloc w _ _).2.2.symm, World.ownsRow_nil _ (w.heap.size + 2) 22 1⟩
  case round =>
    obtain ⟨k, hk, rfl, A4, c4, hb4, hb7, HS⟩ := hrel
    have hwb : IntKind.i64.wrap (x / 8 % 5) = x / 8 % 5 := IntWalk.i64_in _ (by omega)
    have hwc : IntKind.i64.wrap (x / 64) = x / 64 := IntWalk.i64_in _ (by omega)
    have hd0 : wr.cell? ⟨w.heap.size + 1, 0, none⟩ = _ := World.news_of_block hb7 0 _ rfl
    have hd1 : wr.cell? ⟨w.heap.size + 1, 1, none⟩ = _ := World.news_of_block hb7 1 _ rfl
    have hd2 : wr.cell? ⟨w.heap.size + 1, 2, none⟩ = _ := World.news_of_block hb7 2 _ rfl
    have hd3 : wr.cell? ⟨w.heap.size + 1, 3, none⟩ = _ := World.news_of_block hb7 3 _ rfl
    have hd4 : wr.cell? ⟨w.heap.size + 1, 4, none⟩ = _ := World.news_of_block hb7 4 _ rfl
    by_cases hlt : k < m
    · have hw : IntKind.i64.wrap ((k : Int) + 1) = (k : Int) + 1 := IntWalk.i64_in _ (by omega)
      have hw8 : IntKind.i64.wrap (8 * (k : Int)) = 8 * (k : Int) := IntWalk.i64_in _ (by omega)
      have hw9 : IntKind.u64.wrap (8 * (k : Int)) = 8 * (k : Int) := IntWalk.u64_in _ (by omega)
      have hlt' : (k : Int) < x / 64 := by have := HMM.out; omega
      have hk9 : (k : Int) ≤ 255 := by omega
      have E1 := Lib.hid (wdsK_succ x k)
      go_wp2_with (at_builtin; refine wpList_app _ rfl _ _ 111 111 rfl (w.heap.size + 2) 22 (.int .u64 0) 1 8 u_u64s info_u64 rfl (.slice A4 k c4) k (u64s (wdsK x k)) rfl (.slice (some ⟨wr.heap.size, 0, none⟩) 1 1) 1 [.int .u64 (IntKind.u64.wrap (IntKind.u64.wrap (x * 2 ^ (8 * k)) + k))] rfl ?_ (by exact own_keep HS.out.2.2 ((Keep.refl NoB wr).alloc _) (fun _ _ h => h)) (by exact Src.ofSlice _ u_u64s ⟨wr.heap.size, 0, none⟩ 1 1 _ rfl (World.news_of_block (cs := #[.int .u64 (IntKind.u64.wrap (IntKind.u64.wrap (x * 2 ^ (8 * k)) + k))]) (t := 22) (fr := (0, 0)) (heap_alloc_new wr _)) (by simp [Value.oneCell'])) (by simp only [maxLen]; omega) (by omega) (by have := HS.out.2.1; simp; omega); intro v3 w3 hap; refine Hid.out ?_)
      refine Lib.hid ?_
      have Hg3 : Hid (Grow w w3 ∧ w.heap.size + 2 ≤ w3.heap.size) := ⟨((((HS.out.1.mono (T := fun k => w.heap.size + 2 ≤ k) (fun _ h => h.elim)).alloc _).grown hap.grew (fun k hk => .inl (HS.out.2.2.lt k hk).1))).new (fun _ h => by omega), by have h1 := HS.out.2.1; have h2 := hap.grew.size; simp at h2; omega⟩
      have HK := ((Keep.refl (fun k => w.heap.size + 2 ≤ k) wr).alloc (.cells #[.int .u64 (IntKind.u64.wrap (IntKind.u64.wrap (x * 2 ^ (8 * k)) + k))] 22)).grown hap.grew (fun k hk => .inl (HS.out.2.2.lt k hk).1)
      have hs2 := HS.out.2.1
      have hc4 := (HK.block w.heap.size (by omega) (by omega)).trans hb4
      have hc7 := (HK.block (w.heap.size + 1) (by omega) (by omega)).trans hb7
      have Ho3 := Lib.hid hap.own
      obtain ⟨A6, c6, rfl, _⟩ := own_slice hap.own
      have hlb : ∀ q, (Value.slice A6 (k + 1) c6).ownBlock = some q → w.heap.size + 2 ≤ q := fun q hq => (hap.own.lt q hq).1
      clear hap HK
      rw [← E1.out] at Ho3
      have hd3' : w3.cell? ⟨w.heap.size + 1, 2, none⟩ = _ := World.news_of_block hc7 2 _ rfl
      have hfr : ∀ o, w3.frozen? ⟨w.heap.size + 1, o, none⟩ = false := fun o => frozen0 o hc7
      have Hc := Lib.hid hc4
      have Hc' := Lib.hid hc7
      have Hlb := Lib.hid hlb
      clear hd0 hd1 hd2 hd3 hd4 hb4 hb7 hc4 hc7 hlb
      go_wp2
      go_roundw
      case rel =>
        have hkk : Keep (fun q => q = w.heap.size + 1) w3 (w3.setCell ⟨w.heap.size + 1, 2, none⟩ (.slice A6 (k + 1) c6)) := (Keep.refl (fun q => q = w.heap.size + 1) w3).setCell (p := ⟨w.heap.size + 1, 2, none⟩) (.inl rfl) _
        refine ⟨k + 1, by omega, by go_num, A6, c6, (hkk.block w.heap.size (by have := Hg3.out.2; omega) (by simp)).trans Hc.out, ?_, Hg3.out.1.setCell (.inr (by simp)) _, Nat.le_trans Hg3.out.2 hkk.size, own_keep Ho3.out hkk (fun q hq => by have := Hlb.out q hq; omega)⟩
        have hq := Hc'.out
        simp only [World.setCell, Array.getElem?_modify]
        simp [hq]
      case measure => simp [intOf]; omega
    obtain rfl : k = m := by omega
    have hlt' : ¬ ((k : Int) < x / 64) := by have := HMM.out; omega
    have HK0 : Hid (TK ([] : List Int).length v w 1 0 (wdsK x k) (.slice A4 k c4) 0 (.slice none 0 0) [] ([] : List Int) (some ad) 0 wr) := Lib.hid (TK.begin hb4 hb7 HS.out.1 (by rw [wdsK_length]; exact HS.out.2.2) HT.out (Nat.le_refl _) HU.out.1)
    clear hb4 HS
    go_wp2_with fail
    clear hd0 hd1 hd2 hd3 hd4 hb7
    go_loopw [0, 12, 13, 14] (fun v0 v12 v13 v14 wr => ∃ (j : Nat) (lj : List Int) (A0 : Option Addr) (c0 : Nat) (A5 : Option Addr) (c5 : Nat) (rows : List (Tr × Value × Value × Value)), j ≤ q ∧ v12 = .int .i64 j ∧ v0 = .slice A0 lj.length c0 ∧ Hid (TK ([] : List Int).length v w 1 0 (wdsK x k) (.slice A4 k c4) j (.slice A5 j c5) rows lj A0 c0 wr)) (fun _ v12 _ _ _ => q - (intOf v12).toNat)
    case atStart => exact ⟨0, ([] : List Int), (some ad), 0, none, 0, [], by omega, rfl, rfl, HK0⟩
    case round =>
      clear HK0
      obtain ⟨j, lj, A0, c0, A5, c5, rows, hj, rfl, rfl, HK⟩ := hrel
      obtain ⟨n0, n1, n2, n3, n4, nf⟩ := cells5 HK.out.nod
      by_cases hjt : j < q
      · have hjt' : (j : Int) < x / 8 % 5 := by have := HQQ.out; omega
        have hwj : IntKind.i64.wrap ((j : Int) + 1) = (j : Int) + 1 := IntWalk.i64_in _ (by omega)
        have hwd : IntKind.i64.wrap ((deep : Int) - 1) = d := by rw [HDE.out.1]; exact IntWalk.i64_in _ (by have := HDE.out.1; have := HDE.out.2; omega)
        go_wp2_with fail
        refine (IH.out lj A0 c0 v wr (HV.out.grow HK.out.keep) HK.out.left (Nat.le_trans HK.out.le HU.out.2) HK.out.okl).mono ?_
        rintro e w4 ⟨t, B1, B2, B3, d1, d2, d3, l2, A2, c2, rfl, hg4, hf4, htn, htb, hl4, hle4, hok4⟩
        have HM := Lib.hid (HK.out.called hg4 hf4)
        have HL := Lib.hid (And.intro hl4 (And.intro (Nat.le_trans hle4 HK.out.le) hok4))
        have HT2 := Lib.hid (And.intro htn htb)
        clear hg4 hf4 htn htb hl4 hle4 hok4 n0 n1 n2 n3 n4 nf
        have hga := (Keep.refl NoB w4).alloc (.cells #[.int .i64 t.kind, .int .i64 t.size, .slice B1 t.ws.length d1, .slice B2 t.bs.length d2, .slice B3 t.kids.length d3] 114)
        have hna := heap_alloc_new w4 (.cells #[.int .i64 t.kind, .int .i64 t.size, .slice B1 t.ws.length d1, .slice B2 t.bs.length d2, .slice B3 t.kids.length d3] 114)
        replace HM := Lib.hid (HM.out.grow hga)
        have HNA := Lib.hid hna
        clear hga hna
        obtain ⟨t0, t1, t2, t3, t4, tf⟩ := cells5 HNA.out
        obtain ⟨n0, n1, n2, n3, n4, nf⟩ := cells5 HM.out.nod
        have HSRC : Hid (((w4.alloc (.cells #[.int .i64 t.kind, .int .i64 t.size, .slice B1 t.ws.length d1, .slice B2 t.bs.length d2, .slice B3 t.kids.length d3] 114)).alloc (.cells #[.int .i64 t.kind, .int .i64 t.size, .slice B1 t.ws.length d1, .slice B2 t.bs.length d2, .slice B3 t.kids.length d3] 114)).heap[w4.heap.size + 1]? = some (.cells #[.int .i64 t.kind, .int .i64 t.size, .slice B1 t.ws.length d1, .slice B2 t.bs.length d2, .slice B3 t.kids.length d3] 114 (0, 0))) := Lib.hid (two_alloc w4 _ _).2.1
        have HSZ : Hid (w.heap.size + 2 ≤ ((w4.alloc (.cells #[.int .i64 t.kind, .int .i64 t.size, .slice B1 t.ws.length d1, .slice B2 t.bs.length d2, .slice B3 t.kids.length d3] 114)).alloc (.cells #[.int .i64 t.kind, .int .i64 t.size, .slice B1 t.ws.length d1, .slice B2 t.bs.length d2, .slice B3 t.kids.length d3] 114)).heap.size) := Lib.hid (by have := (Array.getElem?_eq_some_iff.1 HM.out.nod).1; simp at this ⊢; omega)
        go_wp2_with (at_builtin; refine wpList_app _ rfl _ _ 112 112 rfl (w.heap.size + 2) 114 (.agg #[.int .i64 0, .int .i64 0, .slice none 0 0, .slice none 0 0, .slice none 0 0]) 5 88 u_nodes info_node rfl (.slice A5 j c5) j (kcs rows) rfl (.slice (some ⟨w4.heap.size + 1, 0, none⟩) 1 1) 1 [.int .i64 t.kind, .int .i64 t.size, .slice B1 t.ws.length d1, .slice B2 t.bs.length d2, .slice B3 t.kids.length d3] rfl ?_ (by exact own_keep HM.out.own ((Keep.refl NoB _).alloc _) (fun _ _ h => h)) (by exact Src.ofSlice _ u_nodes ⟨w4.heap.size + 1, 0, none⟩ 1 1 _ rfl (World.news_of_block (cs := #[.int .i64 t.kind, .int .i64 t.size, .slice B1 t.ws.length d1, .slice B2 t.bs.length d2, .slice B3 t.kids.length d3]) (t := 114) (fr := (0, 0)) HSRC.out) (by simp [Value.oneCell'])) (by simp only [maxLen]; omega) (by omega) (by exact HSZ.out); intro v5 w5 hap; refine Hid.out ?_)
        refine Lib.hid ?_
        replace HM := Lib.hid (HM.out.grow ((Keep.refl NoB _).alloc (.cells #[.int .i64 t.kind, .int .i64 t.size, .slice B1 t.ws.length d1, .slice B2 t.bs.length d2, .slice B3 t.kids.length d3] 114)))
        have hfin := HM.out.appended (kid := (t, .slice B1 t.ws.length d1, .slice B2 t.bs.length d2, .slice B3 t.kids.length d3)) hap HK.out.len (fun x hx => by
          rcases List.mem_append.1 hx with e | e
          · exact HK.out.ok x e
          · rw [List.mem_singleton.1 e]; exact HT2.out) HL.out.1 HL.out.2.1 HL.out.2.2
        obtain ⟨A6, c6, rfl, _⟩ := own_slice hap.own
        have HF := Lib.hid hfin.1
        clear n0 n1 n2 n3 n4 nf t0 t1 t2 t3 t4 tf hap
        obtain ⟨n0, n1, n2, n3, n4, nf⟩ := cells5 hfin.2
        clear hfin
        go_wp2
        go_roundw
        case rel => exact ⟨j + 1, l2, A2, c2, A6, c6, _, by omega, by go_num, rfl, HF⟩
        case measure => simp [intOf]; omega
      · obtain rfl : j = q := by omega
        have hjt' : ¬ ((j : Int) < x / 8 % 5) := by have := HQQ.out; omega
        obtain ⟨hf0, hf1, hf2, hf3, hf4, hfr⟩ := cells5 HK.out.res
        obtain ⟨hw5, -⟩ := stored5 (.int .i64 1) (.int .i64 0) (.slice A4 k c4) (.slice none 0 0) (.slice A5 j c5) HK.out.keep (Nat.le_refl _) HK.out.res
        have HW5 := Lib.hid hw5
        have HP : Hid (TreePost ([] : List Int).length v w (.returned (.tuple #[.agg #[.int .i64 1, .int .i64 0, .slice A4 k c4, .slice none 0 0, .slice A5 j c5], .slice A0 lj.length c0])) (((((wr.setCell ⟨w.heap.size, 0, none⟩ (.int .i64 1)).setCell ⟨w.heap.size, 1, none⟩ (.int .i64 0)).setCell ⟨w.heap.size, 2, none⟩ (.slice A4 k c4)).setCell ⟨w.heap.size, 3, none⟩ (.slice none 0 0)).setCell ⟨w.heap.size, 4, none⟩ (.slice A5 j c5))) :=
          Lib.hid (HK.out.post (wdsK_length x k) (keepN5 _ _ _ _ _) (by rw [wdsK_length]; omega) (wdsK_num x k) (by omega))
        clear hw5
        go_wp2
        revert HW5 HP
        generalize (((((wr.setCell ⟨w.heap.size, 0, none⟩ (.int .i64 1)).setCell ⟨w.heap.size, 1, none⟩ (.int .i64 0)).setCell ⟨w.heap.size, 2, none⟩ (.slice A4 k c4)).setCell ⟨w.heap.size, 3, none⟩ (.slice none 0 0)).setCell ⟨w.heap.size, 4, none⟩ (.slice A5 j c5)) = w5
        intro HW5 HP
        obtain ⟨hf0, hf1, hf2, hf3, hf4, hfr⟩ := cells5 HW5.out
        refine bodyPost_ret (v := .tuple #[.agg #[.int .i64 1, .int .i64 0, .slice A4 k c4, .slice none 0 0, .slice A5 j c5], .slice A0 lj.length c0]) ?_ rfl HP.out
        rw [results_cell_tmp rfl]; go_simp
end Go.Proofs.YtfkcpaahdlkcdaaGreat


import Derived.Test.YtimpnbkincgbmaaTmU
set_option linter.unusedSimpArgs false
set_option linter.unusedVariables false
namespace Go.Proofs.Ytimpnbkincgbmaa
open Go.RowKit

theorem info_bool : (Try.prog.info? 4).map (fun i => (i.zero, i.size, i.bytes)) = some (some (.bool false), 1, 1) := by kernel_rfl
theorem u_bools : Try.prog.underlying 32 = some (.slice 4) := Try.underlying32
def bls (g : List Bool) : List Value := g.map Value.bool
theorem made256 : (madeCells (Value.bool false).cells (256 * 1)).toList = bls (List.replicate 256 false) := by kernel_rfl
structure DrSt (W : World) (q : Nat) (L : List KT) (F : Nat → Prop) (r : Nat) (g : List Bool) (n N : Nat) (w : World) : Prop where
  t : TSt W q L F w
  own : w.ownsRow W.heap.size 4 1 (.slice (some ⟨r, 0, none⟩) 256 256) 256 (bls g)
  apart : ¬ F r
  len : g.length = 256
  cnt : L.length + n = N
  key : ∀ x ∈ L, ∃ k : Nat, x.1 = k ∧ k < 256 ∧ g[k]? = some false ∧ x.2 ≤ 255

theorem DrSt.keep {W : World} {q : Nat} {L : List KT} {F : Nat → Prop} {r : Nat} {g : List Bool} {n N : Nat} {w w' : World} (h : DrSt W q L F r g n N w) (hk : Grow w w') : DrSt W q L F r g n N w' :=
  ⟨h.t.grow' hk, own_keep h.own hk (fun _ _ h => h), h.apart, h.len, h.cnt, h.key⟩
theorem DrSt.miss {W : World} {q : Nat} {L : List KT} {F : Nat → Prop} {r : Nat} {g : List Bool} {n N : Nat} {w w3 : World} (h : DrSt W q L F r g n N w) {v : Int} (h3 : TSt W q (delL L v) F w3) (hK : Keep F w w3) (hh : hasL L v = false) : DrSt W q L F r g n N w3 := by
  have hd : delL L v = L := delL_absent (fun x hx e => by
    have : hasL L v = true := hasL_iff.2 ⟨x.2, by rw [← e]; exact hx⟩
    rw [hh] at this
    cases this)
  rw [hd] at h3
  exact ⟨h3, own_keep h.own hK (fun k hk hF => h.apart (by have : r = k := by simpa [Value.ownBlock] using hk
                                                           rw [this]; exact hF)), h.apart, h.len, h.cnt, h.key⟩
theorem DrSt.hit {W : World} {q : Nat} {L : List KT} {F : Nat → Prop} {r : Nat} {g : List Bool} {n N : Nat} {w w3 : World} (h : DrSt W q L F r g n N w) {v : Nat} (h3 : TSt W q (delL L v) F w3) (hK : Keep F w w3) (hh : hasL L v = true) :
    DrSt W q (delL L v) F r (g.set v true) (n + 1) N (w3.setCell ⟨r, v, none⟩ (.bool true)) := by
  have hb : ∀ k, (Value.slice (some ⟨r, 0, none⟩) 256 256).ownBlock = some k → r = k := fun k hk => by simpa [Value.ownBlock] using hk
  have own3 := own_keep h.own hK (fun k hk hF => h.apart (by rw [hb k hk]; exact hF))
  have hr := own3.lt r rfl
  have ho := (own3.stored v (.bool true)).1
  have hks : Keep (fun k => k = r) w3 (w3.setCell ⟨r, v, none⟩ (.bool true)) := (Keep.refl (fun k => k = r) w3).setCell (p := ⟨r, v, none⟩) (.inl rfl) _
  obtain ⟨t, ht⟩ := hasL_iff.1 hh
  refine ⟨h3.keep hks (fun k hF e => h.apart (e ▸ hF)) (fun k e => e ▸ hr.1), ?_, h.apart, by rw [List.length_set]; exact h.len, ?_, fun x hx => ?_⟩
  · rw [bls, List.map_set]; exact ho
  · have := delL_length h.t.que.nd ht
    have := h.cnt
    omega
  · obtain ⟨h1, h2⟩ := mem_delL.1 hx
    obtain ⟨k, e, hk, hg, ht2⟩ := h.key x h1
    refine ⟨k, e, hk, ?_, ht2⟩
    rw [List.getElem?_set_ne (fun e2 => h2 (by rw [e, e2]))]
    exact hg
theorem DrSt.at_ {W : World} {q : Nat} {L : List KT} {F : Nat → Prop} {r : Nat} {g : List Bool} {n N : Nat} {w : World} (h : DrSt W q L F r g n N w) (v : Nat) (hv : v < 256) : ∃ b, g[v]? = some b ∧ w.cell? ⟨r, v, none⟩ = some (.bool b) ∧ w.frozen? ⟨r, v, none⟩ = false := by
  have hl : v < g.length := by rw [h.len]; exact hv
  obtain ⟨r2, c2, hv2, _, _, hcs⟩ := own_cells h.own (by omega)
  injection hv2 with hv2
  injection hv2 with hv2
  injection hv2 with hv2
  subst hv2
  have := hcs v (.bool g[v]) (by simp [bls, hl])
  exact ⟨g[v], List.getElem?_eq_getElem hl, by simpa using this, h.own.frozenAt _⟩

set_option maxRecDepth 100000 in
set_option maxHeartbeats 2000000 in
theorem drops_calls (A : Option Addr) (cap : Nat) (l : List Int) (B : Option Addr) (cb : Nat) (dr : List Int) (W : World) (hl : SliceR 1 (.slice A l.length cap) l.length (u8s l) W) (hwf : ∀ x ∈ l, (Lit.int .u8 x).wf = true) (hd : SliceR 1 (.slice B dr.length cb) dr.length (u8s dr) W) (hdf : ∀ x ∈ dr, (Lit.int .u8 x).wf = true) (hdl : dr.length ≤ 9223372036854775807) :
    Calls Try.prog 10 #[.slice A l.length cap, .slice B dr.length cb] W fun e w' => e = .returned (.bool true) ∧ Grow W w' := by
  have HL := Lib.hid hl
  have HW := Lib.hid hwf
  have HD := Lib.hid hd
  have HDF := Lib.hid hdf
  clear hl hwf hd hdf
  by_cases hbig : 60 < (l.length : Int)
  · go_enter Try.func10, Try.ntmps10
    go_wp2_with fail
    refine (tknown_calls (Keep.refl NoB W)).mono ?_
    rintro e w1 ⟨rfl, h1⟩
    go_wp2
    go_ret
    exact ⟨rfl, h1⟩
  · go_enter Try.func10, Try.ntmps10
    go_wp2_with fail
    refine (tst_new (Keep.refl NoB W)).mono ?_
    rintro e w1 ⟨q, F, rfl, h1, -, -⟩
    have HS : Hid (TSt W q (sl (tm l) 0) F w1) := h1
    clear h1
    go_wp2
    go_loopw [6] (fun v wr => ∃ i : Nat, i ≤ l.length ∧ v = .int .i64 i ∧ ∃ F, Hid (TSt W q (sl (tm l) i) F wr)) (fun v _ => l.length - (intOf v).toNat)
    case atStart => exact ⟨0, by omega, rfl, F, HS⟩
    case round =>
      clear HS F
      obtain ⟨i, hi, rfl, F, HS⟩ := hrel
      by_cases hlt : i < l.length
      · have hlt' : (i : Int) < l.length := by omega
        have hw : IntKind.i64.wrap ((i : Int) + 1) = (i : Int) + 1 := IntWalk.i64_in _ (by omega)
        have hok := okI_of (k := (i : Int)) (by omega) (by omega)
        obtain ⟨a1, rfl, q1⟩ := SliceR.at_ (HL.out.grow HS.out.grow) i (by simpa using hlt)
        have e1 : (u8s l)[i]'(by simpa using hlt) = .int .u8 (tm l i) := by simp [tm, hlt]
        rw [e1] at q1
        obtain ⟨t0, t1⟩ := tm_ok HW.out i
        go_wp2_with fail
        refine (tst_set HS.out i hok (tm l i)).mono ?_
        rintro e w3 ⟨rfl, F2, h3, -, -⟩
        rw [rSet_sl (tm l) i (by omega)] at h3
        have HS3 := Lib.hid h3
        clear h3 HS
        go_wp2
        go_roundw
        case rel => exact ⟨i + 1, by omega, by go_num, F2, HS3⟩
        case measure => simp [intOf]; omega
      · obtain rfl : i = l.length := by omega
        clear hlt
        obtain ⟨ib, hib, hb1, hb2, hb3⟩ := info_parts info_bool
        go_wp2_with (at_make; refine wpList_make_full _ rfl _ _ _ rfl W.heap.size 4 ib (.bool false) 1 u_bools hib hb1 hb2 _ _ _ _ 256 rfl rfl rfl rfl (by rw [hb3]; omega) (by simp [maxLen]) (by exact HS.out.grow.size) ?_; intro w2 hown hgr; refine Hid.out ?_)
        refine Lib.hid ?_
        rw [made256] at hown
        have hg2 : Grow wr w2 := (Keep.refl NoB wr).grown hgr (fun k hk => by cases hk)
        have HD2 : Hid (DrSt W q (sl (tm l) l.length) F wr.heap.size (List.replicate 256 false) 0 l.length w2) := ⟨HS.out.grow' hg2, hown, fun hF => absurd (HS.out.lt _ hF) (by omega), by simp, by simp [sl_length], fun x hx => by
          obtain ⟨j, hj, rfl⟩ := mem_sl.1 hx
          exact ⟨j, rfl, by omega, by rw [List.getElem?_replicate, if_pos (by omega)], (tm_ok HW.out j).2⟩⟩
        generalize wr.heap.size = r at *
        clear hown hgr hg2 HS
        go_wp2
        go_loopw [8, 9] (fun vn v wr => ∃ i n : Nat, i ≤ dr.length ∧ n ≤ i ∧ i ≤ 100 ∧ v = .int .i64 i ∧ vn = .int .i64 n ∧ ∃ L g, Hid (DrSt W q L F r g n l.length wr)) (fun _ v _ => dr.length - (intOf v).toNat)
        case atStart => exact ⟨0, 0, by omega, by omega, by omega, rfl, rfl, _, _, HD2⟩
        case round =>
          clear HD2
          obtain ⟨i, n, hi, hn, hi100, rfl, rfl, L, g, HS⟩ := hrel
          by_cases hlt : i < dr.length ∧ i < 100
          · obtain ⟨hl1, hl2⟩ := hlt
            have hlt1 : (i : Int) < dr.length := by omega
            have hlt2 : (i : Int) < 100 := by omega
            have hw : IntKind.i64.wrap ((i : Int) + 1) = (i : Int) + 1 := IntWalk.i64_in _ (by omega)
            have hwn : IntKind.i64.wrap ((n : Int) + 1) = (n : Int) + 1 := IntWalk.i64_in _ (by omega)
            obtain ⟨a1, rfl, q1⟩ := SliceR.at_ (HD.out.grow HS.out.t.grow) i (by simpa using hl1)
            rw [show (u8s dr)[i]'(by simpa using hl1) = .int .u8 (tm dr i) from by simp [tm, hl1]] at q1
            obtain ⟨t0, t1⟩ := tm_ok HDF.out i
            obtain ⟨v, hv⟩ : ∃ v : Nat, tm dr i = (v : Int) := ⟨(tm dr i).toNat, by omega⟩
            rw [hv] at q1 t1
            have hv2 : v < 256 := by omega
            have hok := okI_of (k := (v : Int)) (by omega) (by omega)
            clear hv t0
            go_wp2_with fail
            refine (tst_drop HS.out.t v hok).mono ?_
            rintro e w3 ⟨rfl, h3, hK3⟩
            have q1' : w3.cell? (a1.add i) = some (.int .u8 (v : Int)) := by
              obtain ⟨a2, ha2, q2⟩ := SliceR.at_ (HD.out.grow h3.grow) i (by simpa using hl1)
              injection ha2 with ha2
              subst ha2
              obtain ⟨a3, ha3, q3⟩ := SliceR.at_ (HD.out.grow HS.out.t.grow) i (by simpa using hl1)
              injection ha3 with ha3
              subst ha3
              rw [q1] at q3
              injection q3 with q3
              rw [q3]
              exact q2
            cases hh : hasL L v with
            | true =>
              have HS3 := Lib.hid (HS.out.hit h3 hK3 hh)
              have own3 := own_keep HS.out.own hK3 (fun k hk hF => HS.out.apart (by have : r = k := by simpa [Value.ownBlock] using hk
                                                                                    rw [this]; exact hF))
              obtain ⟨b, hb, hcell, _⟩ := HS.out.at_ v hv2
              have hc3 := hK3.cell hcell HS.out.apart
              have hz3 : w3.frozen? ⟨r, v, none⟩ = false := own3.frozenAt _
              clear own3 h3 hK3 HS hcell q1 hb
              go_wp2
              go_roundw
              case rel => exact ⟨i + 1, n + 1, by omega, by omega, by omega, by go_num, by go_num, _, _, HS3⟩
              case measure => simp [intOf]; omega
            | false =>
              have HS3 := Lib.hid (HS.out.miss h3 hK3 hh)
              clear h3 hK3 HS q1
              go_wp2
              go_roundw
              case rel => exact ⟨i + 1, n, by omega, by omega, by omega, by go_num, rfl, _, _, HS3⟩
              case measure => simp [intOf]; omega
          · by_cases hl1 : i < dr.length
            · have e1 : (i : Int) < dr.length := by omega
              have e2 : ¬ ((i : Int) < 100) := by omega
              clear hlt
              go_wp2_with fail
              refine (tst_due HS.out.t 255).mono ?_
              rintro e w4 ⟨d, A4, c4, rfl, hd, h4, hK4, ho4⟩
              have hrest : restL L 255 = [] := by
                unfold restL
                rw [List.filter_eq_nil_iff]
                intro x hx
                obtain ⟨k, _, _, _, ht⟩ := HS.out.key x hx
                simp
                omega
              have hdlen : d.length + n = l.length := by
                have h1 := hd.len
                rw [hrest] at h1
                have h2 := HS.out.cnt
                simp at h1
                omega
              have Hown : Hid (w4.ownsRow W.heap.size 4 1 (.slice (some ⟨r, 0, none⟩) 256 256) 256 (bls g)) := own_keep HS.out.own hK4 (fun k hk hF => HS.out.apart (by
                have : r = k := by simpa [Value.ownBlock] using hk
                rw [this]; exact hF))
              have Hkey : Hid (∀ x ∈ d, ∃ k : Nat, x.1 = k ∧ k < 256 ∧ g[k]? = some false) := fun x hx => by
                obtain ⟨k, h1, h2, h3, _⟩ := HS.out.key x ((hd.mem x).1 hx).1
                exact ⟨k, h1, h2, h3⟩
              have HT := Lib.hid h4
              have Ho4 := Lib.hid (SliceR.of_own ho4)
              clear h4 hK4 ho4 hd hrest HS
              go_wp2
              go_loopw [11] (fun v wr2 => wr2 = w4 ∧ ∃ j : Nat, j ≤ d.length ∧ v = .int .i64 j) (fun v _ => d.length - (intOf v).toNat)
              case atStart => exact ⟨rfl, 0, by omega, rfl⟩
              case round =>
                obtain ⟨rfl, j, hj, rfl⟩ := hrel
                by_cases hjl : j < d.length
                · have hjl' : (j : Int) < d.length := by omega
                  have hwj : IntKind.i64.wrap ((j : Int) + 1) = (j : Int) + 1 := IntWalk.i64_in _ (by omega)
                  obtain ⟨a5, rfl, q5⟩ := SliceR.at_ Ho4.out j (by simpa [keysV] using hjl)
                  obtain ⟨k, hk1, hk2, hk3⟩ := Hkey.out d[j] (List.getElem_mem hjl)
                  rw [show (keysV d)[j]'(by simpa [keysV] using hjl) = .int .i64 (k : Int) from by simp [keysV, hk1]] at q5
                  obtain ⟨r2, c2, hv2, _, _, hcs⟩ := own_cells Hown.out (by omega)
                  injection hv2 with hv2
                  injection hv2 with hv2
                  injection hv2 with hv2
                  subst hv2
                  have hgk := hcs k (.bool false) (by simp [bls, hk3])
                  have hgk' : wr.cell? ⟨r, k, none⟩ = some (.bool false) := by simpa using hgk
                  have k0 : ¬ ((k : Int) < 0) := by omega
                  have k1 : ¬ ((255 : Int) < k) := by omega
                  have k2 : (k : Int) < 256 := by omega
                  clear hcs hgk hk1 hk3
                  go_wp2
                  go_roundw
                  case rel => exact ⟨trivial, j + 1, by omega, by go_num⟩
                  case measure => simp [intOf]; omega
                · obtain rfl : j = d.length := by omega
                  clear hjl
                  have hwn : IntKind.i64.wrap ((l.length : Int) - (n : Int)) = (l.length : Int) - (n : Int) := IntWalk.i64_in _ (by omega)
                  have hdd : ((d.length : Int) == (l.length : Int) - (n : Int)) = true := beq_iff_eq.2 (by omega)
                  go_wp2_with fail
                  refine (tknown_calls (Keep.refl NoB _)).mono ?_
                  rintro e w7 ⟨rfl, hg7⟩
                  have HT7 := Lib.hid (HT.out.grow' hg7)
                  clear hg7
                  go_wp2
                  go_ret
                  exact ⟨rfl, HT7.out.grow⟩
            · have e1 : ¬ ((i : Int) < dr.length) := by omega
              clear hlt
              go_wp2_with fail
              refine (tst_due HS.out.t 255).mono ?_
              rintro e w4 ⟨d, A4, c4, rfl, hd, h4, hK4, ho4⟩
              have hrest : restL L 255 = [] := by
                unfold restL
                rw [List.filter_eq_nil_iff]
                intro x hx
                obtain ⟨k, _, _, _, ht⟩ := HS.out.key x hx
                simp
                omega
              have hdlen : d.length + n = l.length := by
                have h1 := hd.len
                rw [hrest] at h1
                have h2 := HS.out.cnt
                simp at h1
                omega
              have Hown : Hid (w4.ownsRow W.heap.size 4 1 (.slice (some ⟨r, 0, none⟩) 256 256) 256 (bls g)) := own_keep HS.out.own hK4 (fun k hk hF => HS.out.apart (by
                have : r = k := by simpa [Value.ownBlock] using hk
                rw [this]; exact hF))
              have Hkey : Hid (∀ x ∈ d, ∃ k : Nat, x.1 = k ∧ k < 256 ∧ g[k]? = some false) := fun x hx => by
                obtain ⟨k, h1, h2, h3, _⟩ := HS.out.key x ((hd.mem x).1 hx).1
                exact ⟨k, h1, h2, h3⟩
              have HT := Lib.hid h4
              have Ho4 := Lib.hid (SliceR.of_own ho4)
              clear h4 hK4 ho4 hd hrest HS
              go_wp2
              go_loopw [11] (fun v wr2 => wr2 = w4 ∧ ∃ j : Nat, j ≤ d.length ∧ v = .int .i64 j) (fun v _ => d.length - (intOf v).toNat)
              case atStart => exact ⟨rfl, 0, by omega, rfl⟩
              case round =>
                obtain ⟨rfl, j, hj, rfl⟩ := hrel
                by_cases hjl : j < d.length
                · have hjl' : (j : Int) < d.length := by omega
                  have hwj : IntKind.i64.wrap ((j : Int) + 1) = (j : Int) + 1 := IntWalk.i64_in _ (by omega)
                  obtain ⟨a5, rfl, q5⟩ := SliceR.at_ Ho4.out j (by simpa [keysV] using hjl)
                  obtain ⟨k, hk1, hk2, hk3⟩ := Hkey.out d[j] (List.getElem_mem hjl)
                  rw [show (keysV d)[j]'(by simpa [keysV] using hjl) = .int .i64 (k : Int) from by simp [keysV, hk1]] at q5
                  obtain ⟨r2, c2, hv2, _, _, hcs⟩ := own_cells Hown.out (by omega)
                  injection hv2 with hv2
                  injection hv2 with hv2
                  injection hv2 with hv2
                  subst hv2
                  have hgk := hcs k (.bool false) (by simp [bls, hk3])
                  have hgk' : wr.cell? ⟨r, k, none⟩ = some (.bool false) := by simpa using hgk
                  have k0 : ¬ ((k : Int) < 0) := by omega
                  have k1 : ¬ ((255 : Int) < k) := by omega
                  have k2 : (k : Int) < 256 := by omega
                  clear hcs hgk hk1 hk3
                  go_wp2
                  go_roundw
                  case rel => exact ⟨trivial, j + 1, by omega, by go_num⟩
                  case measure => simp [intOf]; omega
                · obtain rfl : j = d.length := by omega
                  clear hjl
                  have hwn : IntKind.i64.wrap ((l.length : Int) - (n : Int)) = (l.length : Int) - (n : Int) := IntWalk.i64_in _ (by omega)
                  have hdd : ((d.length : Int) == (l.length : Int) - (n : Int)) = true := beq_iff_eq.2 (by omega)
                  go_wp2_with fail
                  refine (tknown_calls (Keep.refl NoB _)).mono ?_
                  rintro e w7 ⟨rfl, hg7⟩
                  have HT7 := Lib.hid (HT.out.grow' hg7)
                  clear hg7
                  go_wp2
                  go_ret
                  exact ⟨rfl, HT7.out.grow⟩
end Go.Proofs.Ytimpnbkincgbmaa

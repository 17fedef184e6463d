import Derived.Test.YtfkcpaahdlkcdaaGreatM16
/-! Joined: SnO, SnP. -/
set_option linter.unusedSimpArgs false
set_option linter.unusedVariables false
namespace Go.Proofs.YtfkcpaahdlkcdaaGreat
open Go.RowKit

theorem pauseN_bd {back n : Int} (h : 1 ≤ back) (h2 : back ≤ 64) (h0 : 0 ≤ n) : 1 ≤ pauseN back n ∧ pauseN back n ≤ 64 := by
  unfold pauseN
  have : (1 : Int) ≤ 2 ^ (min n 10).toNat := by
    have := Nat.one_le_two_pow (n := (min n 10).toNat)
    exact_mod_cast this
  omega
/-- One more try, laid. -/
theorem SAt.tried {g : Nat} {p : SP} {d : Snd} {Fq G : Nat → Prop} {w : World} (h : SAt g p d Fq G w) (key : Nat) (x : Int) (h0 : 0 ≤ x) (h1 : x ≤ d.retry) : SAt g p { d with tries := d.tries.set key x } Fq G (w.setCell ⟨p.rt, key, none⟩ (.int .i64 x)) ∧ Keep (SF g p.rt Fq) w (w.setCell ⟨p.rt, key, none⟩ (.int .i64 x)) := by
  obtain ⟨d1, d2, d3, d4, d5, d6⟩ := h.dis
  have hl : (d.tries.set key x).length = d.tries.length := List.length_set
  have hK2 := keep_put p.rt key w (.int .i64 x)
  have hst := h.tri.stored key (.int .i64 x)
  rw [ints_set] at hst
  refine ⟨⟨?_, h.que.keep hK2 (fun k hk e => d3 (e ▸ hk)), ?_, h.ro.keep hK2 (fun k hk e => d5 (e ▸ hk)), ⟨d1, d2, d3, d4, d5, d6⟩, fun k hk => by simpa using h.lt k hk, h.ok.inc key x h0 h1⟩, hK2.mono (fun k e => .inr (.inl e))⟩
  · show _ = some (Obj.cells #[_, _, _, _, _, _, _, _, _, _, _, _, _, .slice _ (d.tries.set key x).length _, _] _ _)
    rw [hl]
    exact (hK2.block g h.gq d1).trans h.cell
  · show World.ownsRow _ _ _ _ (.slice _ (d.tries.set key x).length _) (d.tries.set key x).length (ints (d.tries.set key x))
    rw [hl]
    exact hst.1
theorem SAt.try_cell {g : Nat} {p : SP} {d : Snd} {Fq G : Nat → Prop} {w : World} (h : SAt g p d Fq G w) (key : Nat) (hk : key < d.tries.length) : w.cell? ⟨p.rt, key, none⟩ = some (.int .i64 (d.tries.getD key 0)) ∧ w.frozen? ⟨p.rt, key, none⟩ = false := by
  refine ⟨?_, h.tri.frozenAt _⟩
  obtain ⟨r, c2, e, _, _, hcs⟩ := own_cells h.tri (by omega)
  injection e with e1
  injection e1 with e1
  injection e1 with e1
  have := hcs key (.int .i64 (d.tries.getD key 0)) (by simp [ints, hk])
  rw [← e1] at this
  simpa using this
theorem own_lt {base e size n : Nat} {v : Value} {xs : List Value} {w : World} (h : w.ownsRow base e size v n xs) : ∀ k, v.ownBlock = some k → k < w.heap.size := fun k hk => (h.lt k hk).2

/-- The same queue's blocks, other timers. -/
theorem SAt.queue0 {g : Nat} {p : SP} {d : Snd} {Fq G : Nat → Prop} {w w' : World} (h : SAt g p d Fq G w) {tm : List KT} (hQ : Que p.q tm Fq w') (hK : Keep Fq w w') (hok : OkS { d with tm := tm }) : SAt g p { d with tm := tm } Fq G w' := by
  obtain ⟨d1, d2, d3, d4, d5, d6⟩ := h.dis
  exact ⟨(hK.block g h.gq d2).trans h.cell, hQ, own_keep h.tri hK (fun k hk => by cases hk; exact d3), h.ro.keep hK (fun k hk e => d6 k e hk), ⟨d1, d2, d3, d4, d5, d6⟩, fun k hk => Nat.lt_of_lt_of_le (h.lt k hk) hK.size, hok⟩
theorem OkS.rest {d : Snd} (h : OkS d) (now : Int) : OkS { d with tm := restL d.tm now } :=
  ⟨h.s0, h.s1, h.sum, h.fit, h.ch, h.chl, h.conf, h.phase, h.err, h.acked, h.alen, h.tlen, h.tr, fun x hx => h.tm x (List.mem_filter.1 hx).1⟩
set_option maxRecDepth 100000 in
set_option maxHeartbeats 8000000 in
theorem tick_calls {g : Nat} {p : SP} {d : Snd} {Fq G : Nat → Prop} {w : World} (h : SAt g p d Fq G w) (hp : d.phase = 1) (now : Int) (h0 : 0 ≤ now) (h1 : now ≤ 1000000000000) :
    Calls Tryz.prog 19 #[.pointer (some ⟨g, 0, none⟩), .int .i64 now] w fun e w' => ∃ A c rows Gr p' Fq' ds, e = .returned (.slice A rows.length c) ∧ DueOf (openD now d).tm now ds ∧ p'.rt = p.rt ∧ SAt g p' (tickL now ds { openD now d with tm := restL (openD now d).tm now } []).1 Fq' G w' ∧ rows.map (·.1) = (tickL now ds { openD now d with tm := restL (openD now d).tm now } []).2 ∧ GOut w.heap.size rows (.slice A rows.length c) Gr w' ∧ Keep (SF g p.rt Fq) w w' ∧ Grew Fq Fq' w ∧ ∀ k, ((Value.slice A rows.length c).ownBlock = some k ∨ Gr k) → ¬ SF g p.rt Fq' k := by
  have hn := h.ok.n
  have HXG : Hid (∀ k, G k → k < w.heap.size) := Lib.hid (fun k hk => h.ro.lt hk)
  obtain ⟨c0, c1, c2, c3, c4, c5, c6, c7, c8, c9, c10, c11, c12, c13, c14, cf⟩ := cells15 h.cell
  rw [hp] at c10
  obtain ⟨d1, hd1⟩ : ∃ d1, openD now d = d1 := ⟨_, rfl⟩
  have ho := open_calls h now
  rw [hd1] at ho ⊢
  have HOP := Lib.hid ho
  have HRET := Lib.hid (h.ok.conf)
  clear h hp ho hd1
  go_enter Tryz.func19, Tryz.ntmps19
  go_wp2_with fail
  refine HOP.out.mono ?_
  rintro e w1 ⟨⟨v1, rfl⟩, F1, hS, hK, hG⟩
  clear c0 c1 c2 c3 c4 c5 c6 c7 c8 c9 c10 c11 c12 c13 c14 cf HOP
  have hga := (Keep.refl NoB w1).alloc (.cells #[.slice none 0 0] 43)
  have HO := Lib.hid (heap_alloc_new w1 (.cells #[.slice none 0 0] 43))
  have HS := Lib.hid (hS.grow hga)
  have HK := Lib.hid (hK.grow hga)
  have HG := Lib.hid hG
  have hsz1 := hK.size
  have HOS : Hid (¬ SF g p.rt F1 w1.heap.size) := Lib.hid (fun e => by have := hS.small _ e; omega)
  have hc0 := (cells15 (hS.grow hga).cell).1
  have hsz2 : (w1.alloc (.cells #[.slice none 0 0] 43)).heap.size = w1.heap.size + 1 := by simp
  have hfew := hS.que.few
  clear hS hK hG hga
  go_wp2_with fail
  refine (tdue_calls HS.out.que HS.out.lt now).mono ?_
  rintro e w3 ⟨ds, A3, k3, rfl, hdue, hQ, hKq, hob⟩
  have hlen : ds.length ≤ 1000 := by have := hdue.len; omega
  have hS3 := HS.out.queue0 hQ hKq (HS.out.ok.rest now)
  have hK3 : Keep (SF g p.rt F1) (w1.alloc (.cells #[.slice none 0 0] 43)) w3 := hKq.mono (fun k e => .inr (.inr e))
  have HDUE := Lib.hid hdue
  have HDM : Hid (∀ x, x ∈ ds → 0 ≤ x.1 ∧ x.1 < d1.tries.length) := Lib.hid (fun x hx => HS.out.ok.tm x ((hdue.mem x).1 hx).1)
  obtain ⟨d0, hd0⟩ : ∃ d0, { d1 with tm := restL d1.tm now } = d0 := ⟨_, rfl⟩
  have HTI : Hid (TKI g p.rt w1.heap.size Fq G w p d0 F1 [] (.slice none 0 0) NoB (.slice A3 ds.length k3) ds (fun k => (Value.slice A3 ds.length k3).ownBlock = some k) w3) := by
    have hOl := (Array.getElem?_eq_some_iff.1 HO.out).1
    have hOF : ¬ F1 w1.heap.size := fun e => HOS.out (.inr (.inr e))
    rw [hd0] at hS3
    refine Lib.hid ⟨hS3, rfl, keep_sf HK.out HG.out hK3, HG.out, (hKq.block w1.heap.size hOl hOF).trans HO.out, GOut.nil _ _, Foot.of_own hob, fun k hk h2 => ?_, ⟨by simp [Value.ownBlock], fun h => h, fun e => ?_⟩, fun k hk => by simp [Value.ownBlock] at hk, HXG.out, hsz1⟩
    · rcases hk with e | e | e | e
      · subst e
        rcases h2 with e | e | e
        · exact HOS.out (.inl e)
        · exact HOS.out (.inr (.inl e))
        · exact hOF e
      · simp [Value.ownBlock] at e
      · exact e
      · have h9 := (hob.lt k e).1
        have := HS.out.small k h2
        omega
    · have := (hob.lt _ e).1; omega
  clear hS3 hK3 hQ hKq hob hc0 hdue HS HK HG HO HOS
  have hlr := HRET.out.retry1
  have hlr2 := HRET.out.retry2
  generalize w1.heap.size = O at HTI hsz1 hsz2
  clear hsz1 hsz2
  have hst : Hid (∀ x, x ∈ ds → 0 ≤ x.1 ∧ x.1 < d0.tries.length) := Lib.hid (fun x hx => by rw [← hd0]; exact HDM.out x hx)
  have HD0 := Lib.hid hd0
  clear HDM hn hfew hd0
  go_wp2
  go_loopw [29] (fun v wr => ∃ k : Nat, k ≤ ds.length ∧ v = .int .i64 k ∧ Hid (∃ p' dk Fk rows v' Gr, TKI g p.rt O Fq G w p' dk Fk rows v' Gr (.slice A3 ds.length k3) ds (fun k => (Value.slice A3 ds.length k3).ownBlock = some k) wr ∧ tickL now (ds.drop k) dk (rows.map (·.1)) = tickL now ds d0 [] ∧ rows.length = k ∧ dk.tries.length = d0.tries.length)) (fun v _ => ds.length - (intOf v).toNat)
  case atStart => exact ⟨0, by omega, rfl, p, d0, F1, [], _, NoB, HTI.out, rfl, rfl, rfl⟩
  case round =>
    clear HTI
    obtain ⟨k, hk, rfl, HH⟩ := hrel
    obtain ⟨p', dk, Fk, rows, v', Gr, hT, hL, hrl, htl⟩ := HH.out
    have HT := Lib.hid hT
    clear HH
    by_cases hlt : k < ds.length
    · have hx := hst.out ds[k] (List.getElem_mem hlt)
      obtain ⟨key, hkey⟩ : ∃ key : Nat, ds[k].1 = key := ⟨ds[k].1.toNat, by omega⟩
      have hkl : key < dk.tries.length := by omega
      rw [List.drop_eq_getElem_cons hlt, tickL, hkey, Int.toNat_natCast] at hL
      obtain ⟨A9, k9, e9, _, _, _, hcs⟩ := HT.out.due.now
      injection e9 with e9 _ e11
      subst e9
      subst e11
      obtain ⟨ad, hAd, hcell⟩ := hcs k (.int .i64 key) (by simp [keysV, hlt, hkey])
      subst hAd
      clear hcs hkey hx hT
      obtain ⟨t, ht⟩ : ∃ t, dk.tries.getD key 0 = t := ⟨_, rfl⟩
      obtain ⟨tc, tf⟩ := HT.out.sat.try_cell key hkl
      have htb : 0 ≤ t ∧ t ≤ dk.retry := by
        rw [← ht]
        have : dk.tries.getD key 0 = dk.tries[key] := by simp [hkl]
        rw [this]
        exact HT.out.sat.ok.tr _ (List.getElem_mem hkl)
      rw [ht] at tc hL
      have HT0 := Lib.hid ht
      have hrl2 := HT.out.sat.ok.conf.retry2
      have hb1 := HT.out.sat.ok.conf.back1
      have hb2 := HT.out.sat.ok.conf.back2
      obtain ⟨c0, c1, c2, c3, c4, c5, c6, c7, c8, c9, c10, c11, c12, c13, c14, cf⟩ := cells15 HT.out.sat.cell
      have hk0 : (k : Int) < ds.length := by omega
      have hkl' : (key : Int) < dk.tries.length := by omega
      have HO := Lib.hid HT.out.ob
      have HHK := Lib.hid HT.out.keep.size
      have HOL := Lib.hid (HT.out.xlt O (.inl rfl))
      have HVL := Lib.hid (fun j hj => HT.out.xlt j (.inr (.inl hj)))
      have HSM : Hid (∀ j, SF g p.rt Fk j → j < wr.heap.size) := Lib.hid (fun j hj => HT.out.sat.small j (by rw [HT.out.hrt]; exact hj))
      have HTLN := Lib.hid htl
      have HRL := Lib.hid hrl
      have hrlb : rows.length ≤ 1000000 := by omega
      clear ht htl hrl
      by_cases hb : dk.retry ≤ t
      · have hL2 := Lib.hid (show (endD dk 3 33, rows.map (·.1) ++ [gmOf dk 8]) = tickL now ds d0 [] from by rw [if_pos hb] at hL; exact hL)
        have hbb : decide (dk.retry ≤ t) = true := by simpa using hb
        clear hL
        go_wp2
        refine region_ord [0, 1, 2, 3, 4, 5, 6, 7, 8, 9, 10, 11, 12] [] [3, 6, 11] [] rfl (by kernel_rfl) ?_
        iterate 3
          refine ord_pure rfl rfl rfl rfl rfl (fun _ _ _ _ h => h) ?_ ?_ ?_ ?_ ?_
          rotate_left 2
          · intro w'; go_simp; with_reducible rfl
          · simp only [Act.put, List.setIfInBounds_toArray, List.set_cons_zero, List.set_cons_succ]; rfl
        refine ord_read rfl rfl rfl rfl rfl (fun _ _ _ _ h => h) ?_ ?_ ?_ ?_ ?_
        rotate_left 2
        · intro w' hg; have q := hg.cell c13 (fun h => h); go_simp; with_reducible rfl
        · simp only [Act.put, List.setIfInBounds_toArray, List.set_cons_zero, List.set_cons_succ]; rfl
        iterate 2
          refine ord_pure rfl rfl rfl rfl rfl (fun _ _ _ _ h => h) ?_ ?_ ?_ ?_ ?_
          rotate_left 2
          · intro w'; go_simp; with_reducible rfl
          · simp only [Act.put, List.setIfInBounds_toArray, List.set_cons_zero, List.set_cons_succ]; rfl
        refine ord_read rfl rfl rfl rfl rfl (fun _ _ _ _ h => h) ?_ ?_ ?_ ?_ ?_
        rotate_left 2
        · intro w' hg; have q := hg.cell tc (fun h => h); go_simp; with_reducible rfl
        · simp only [Act.put, List.setIfInBounds_toArray, List.set_cons_zero, List.set_cons_succ]; rfl
        iterate 4
          refine ord_pure rfl rfl rfl rfl rfl (fun _ _ _ _ h => h) ?_ ?_ ?_ ?_ ?_
          rotate_left 2
          · intro w'; go_simp; with_reducible rfl
          · simp only [Act.put, List.setIfInBounds_toArray, List.set_cons_zero, List.set_cons_succ]; rfl
        refine ord_read rfl rfl rfl rfl rfl (fun _ _ _ _ h => h) ?_ ?_ ?_ ?_ ?_
        rotate_left 2
        · intro w' hg; have q := hg.cell c8 (fun h => h); go_simp; with_reducible rfl
        · simp only [Act.put, List.setIfInBounds_toArray, List.set_cons_zero, List.set_cons_succ]; rfl
        refine ord_pure rfl rfl rfl rfl rfl (fun _ _ _ _ h => h) ?_ ?_ ?_ ?_ ?_
        rotate_left 2
        · intro w'; go_simp; with_reducible rfl
        · simp only [Act.put, List.setIfInBounds_toArray, List.set_cons_zero, List.set_cons_succ]; rfl
        refine ord_nil ?_
        replace HT := Lib.hid (HT.out.grow (Keep.refl NoB wr).drew)
        clear c0 c1 c2 c3 c4 c5 c6 c7 c8 c9 c10 c11 c12 c13 c14 cf tc tf hcell
        go_wp2_with fail
        refine (end_calls HT.out.sat 3 33 (by omega) (by omega)).mono ?_
        rintro e w4 ⟨⟨v4, rfl⟩, q4, F4, hS4, hK4, hF4⟩
        rw [HT.out.hrt] at hK4
        have HT4 := Lib.hid (HT.out.sender hS4 HT.out.hrt hK4 (fun j hj => .inr (hF4 j hj)))
        clear hS4 hK4 hF4
        go_wp2_with fail
        refine (gram_calls HT4.out.sat 8).mono ?_
        rintro e w5 ⟨rfl, hg⟩
        have HT5 := Lib.hid (HT4.out.grow hg)
        clear hg HT4
        go_wp2_with fail
        refine (put_gram HT5.out.cell HT5.out.out.own HT5.out.xo.1 hrlb HT5.out.keep.size (gmOf dk 8) none none 0 0 0 0).mono ?_
        rintro e w6 ⟨⟨v6, rfl⟩, v7, hc6, hown6, hk6, hat6, hno6⟩
        have HT6 := Lib.hid (HT5.out.push (x := (gmOf dk 8, .slice none 0 0, .slice none 0 0)) (Fx := NoB) ⟨fun _ h => h.elim, fun W _ => ⟨sliceR_none 1 W, sliceR_none 1 W⟩⟩ (fun _ h => h.elim) (fun _ h => h.elim) (fun h => h) (fun _ _ h => h) hc6 hown6 hk6 hat6 hno6)
        clear hc6 hown6 hk6 hat6 hno6 HT5 HT
        obtain ⟨Af, cf, rfl, _⟩ := own_slice HT6.out.out.own
        have hcf := cell0 HT6.out.cell
        go_wp2
        go_ret
        refine ⟨Af, cf, rows ++ [(gmOf dk 8, .slice none 0 0, .slice none 0 0)], _, _, _, ds, by simp, HDUE.out, HT6.out.hrt, ?_, ?_, HT6.out.out, HT6.out.keep, HT6.out.grew, fun j hj => HT6.out.xd j (hj.elim (fun h => .inr (.inl h)) (fun h => .inr (.inr (.inl h))))⟩
        · rw [HD0.out, ← hL2.out]; exact HT6.out.sat
        · rw [HD0.out, ← hL2.out]; simp
      · have hL2 := Lib.hid (show tickL now (ds.drop (k + 1)) (stepD now key dk) (rows.map (·.1) ++ [ofG dk key]) = tickL now ds d0 [] from by rw [if_neg hb] at hL; exact hL)
        have hbb : decide (dk.retry ≤ t) = false := by simpa using hb
        have hbt : t + 1 ≤ dk.retry := by omega
        clear hL
        go_wp2
        refine region_ord [0, 1, 2, 3, 4, 5, 6, 7, 8, 9, 10, 11, 12] [] [3, 6, 11] [] rfl (by kernel_rfl) ?_
        iterate 3
          refine ord_pure rfl rfl rfl rfl rfl (fun _ _ _ _ h => h) ?_ ?_ ?_ ?_ ?_
          rotate_left 2
          · intro w'; go_simp; with_reducible rfl
          · simp only [Act.put, List.setIfInBounds_toArray, List.set_cons_zero, List.set_cons_succ]; rfl
        refine ord_read rfl rfl rfl rfl rfl (fun _ _ _ _ h => h) ?_ ?_ ?_ ?_ ?_
        rotate_left 2
        · intro w' hg; have q := hg.cell c13 (fun h => h); go_simp; with_reducible rfl
        · simp only [Act.put, List.setIfInBounds_toArray, List.set_cons_zero, List.set_cons_succ]; rfl
        iterate 2
          refine ord_pure rfl rfl rfl rfl rfl (fun _ _ _ _ h => h) ?_ ?_ ?_ ?_ ?_
          rotate_left 2
          · intro w'; go_simp; with_reducible rfl
          · simp only [Act.put, List.setIfInBounds_toArray, List.set_cons_zero, List.set_cons_succ]; rfl
        refine ord_read rfl rfl rfl rfl rfl (fun _ _ _ _ h => h) ?_ ?_ ?_ ?_ ?_
        rotate_left 2
        · intro w' hg; have q := hg.cell tc (fun h => h); go_simp; with_reducible rfl
        · simp only [Act.put, List.setIfInBounds_toArray, List.set_cons_zero, List.set_cons_succ]; rfl
        iterate 4
          refine ord_pure rfl rfl rfl rfl rfl (fun _ _ _ _ h => h) ?_ ?_ ?_ ?_ ?_
          rotate_left 2
          · intro w'; go_simp; with_reducible rfl
          · simp only [Act.put, List.setIfInBounds_toArray, List.set_cons_zero, List.set_cons_succ]; rfl
        refine ord_read rfl rfl rfl rfl rfl (fun _ _ _ _ h => h) ?_ ?_ ?_ ?_ ?_
        rotate_left 2
        · intro w' hg; have q := hg.cell c8 (fun h => h); go_simp; with_reducible rfl
        · simp only [Act.put, List.setIfInBounds_toArray, List.set_cons_zero, List.set_cons_succ]; rfl
        refine ord_pure rfl rfl rfl rfl rfl (fun _ _ _ _ h => h) ?_ ?_ ?_ ?_ ?_
        rotate_left 2
        · intro w'; go_simp; with_reducible rfl
        · simp only [Act.put, List.setIfInBounds_toArray, List.set_cons_zero, List.set_cons_succ]; rfl
        refine ord_nil ?_
        replace HT := Lib.hid (HT.out.grow (Keep.refl NoB wr).drew)
        clear c0 c1 c2 c3 c4 c5 c6 c7 c8 c9 c10 c11 c12 c13 c14 cf tc tf hcell
        go_wp2_with fail
        refine (of_any HT.out.sat key hkl).mono ?_
        rintro e w4 ⟨A1, n1, k1, A2, n2, k2, Fx, rfl, hg, hfx, hfb⟩
        have hfb2 : ∀ j, Fx j → wr.heap.size ≤ j := hfb
        have HT4 := Lib.hid (HT.out.grow hg)
        have HFX := Lib.hid hfx
        have HFB := Lib.hid hfb2
        clear hg hfx hfb hfb2
        go_wp2_with fail
        refine (put_gram HT4.out.cell HT4.out.out.own HT4.out.xo.1 hrlb HT4.out.keep.size (ofG dk key) A1 A2 n1 k1 n2 k2).mono ?_
        rintro e w6 ⟨⟨v6, rfl⟩, v7, hc6, hown6, hk6, hat6, hno6⟩
        have HT6 := Lib.hid (HT4.out.push (x := (ofG dk key, .slice A1 n1 k1, .slice A2 n2 k2)) HFX.out (fun j hj => Nat.le_trans HHK.out (HFB.out j hj)) (fun j hj h2 => by have := HFB.out j hj; have := HSM.out j h2; omega) (fun h2 => by have := HFB.out O h2; have := HOL.out; omega) (fun j hj h2 => by have := HFB.out j h2; have := HVL.out j hj; omega) hc6 hown6 hk6 hat6 hno6)
        clear hc6 hown6 hk6 hat6 hno6 HT4 HT HFX HFB
        obtain ⟨c0, c1, c2, c3, c4, c5, c6, c7, c8, c9, c10, c11, c12, c13, c14, cf⟩ := cells15 HT6.out.sat.cell
        obtain ⟨tc, tf⟩ := HT6.out.sat.try_cell key hkl
        rw [HT0.out] at tc
        obtain ⟨pa, hpa⟩ : ∃ pa, pauseN dk.back t = pa := ⟨_, rfl⟩
        have hpb := pauseN_bd hb1 hb2 htb.1
        have hpc := pause_calls (HT6.out.sat.grow (Keep.refl NoB w6).drew) t htb.1
        rw [hpa] at hpb hpc
        have HPC := Lib.hid hpc
        have HPA := Lib.hid hpa
        have hw1 : IntKind.i64.wrap (now + pa) = now + pa := IntWalk.i64_in _ (by omega)
        have hw2 : IntKind.i64.wrap (t + 1) = t + 1 := IntWalk.i64_in _ (by omega)
        have ht10 : 0 ≤ t + 1 := by omega
        clear hpc hpa hpb
        go_wp2
        refine region_ord [0, 1, 2, 3, 4, 5, 6, 7, 8, 9, 10, 11, 12, 13, 14, 15, 16] [14, 16] [3, 10, 13] [16] rfl (by kernel_rfl) ?_
        iterate 3
          refine ord_pure rfl rfl rfl rfl rfl (fun _ _ _ _ h => h) ?_ ?_ ?_ ?_ ?_
          rotate_left 2
          · intro w'; go_simp; with_reducible rfl
          · simp only [Act.put, List.setIfInBounds_toArray, List.set_cons_zero, List.set_cons_succ]; rfl
        refine ord_read rfl rfl rfl rfl rfl (fun _ _ _ _ h => h) ?_ ?_ ?_ ?_ ?_
        rotate_left 2
        · intro w' hg; have q := hg.cell c0 (fun h => h); go_simp; with_reducible rfl
        · simp only [Act.put, List.setIfInBounds_toArray, List.set_cons_zero, List.set_cons_succ]; rfl
        iterate 6
          refine ord_pure rfl rfl rfl rfl rfl (fun _ _ _ _ h => h) ?_ ?_ ?_ ?_ ?_
          rotate_left 2
          · intro w'; go_simp; with_reducible rfl
          · simp only [Act.put, List.setIfInBounds_toArray, List.set_cons_zero, List.set_cons_succ]; rfl
        refine ord_read rfl rfl rfl rfl rfl (fun _ _ _ _ h => h) ?_ ?_ ?_ ?_ ?_
        rotate_left 2
        · intro w' hg; have q := hg.cell c13 (fun h => h); go_simp; with_reducible rfl
        · simp only [Act.put, List.setIfInBounds_toArray, List.set_cons_zero, List.set_cons_succ]; rfl
        iterate 2
          refine ord_pure rfl rfl rfl rfl rfl (fun _ _ _ _ h => h) ?_ ?_ ?_ ?_ ?_
          rotate_left 2
          · intro w'; go_simp; with_reducible rfl
          · simp only [Act.put, List.setIfInBounds_toArray, List.set_cons_zero, List.set_cons_succ]; rfl
        refine ord_read rfl rfl rfl rfl rfl (fun _ _ _ _ h => h) ?_ ?_ ?_ ?_ ?_
        rotate_left 2
        · intro w' hg; have q := hg.cell tc (fun h => h); go_simp; with_reducible rfl
        · simp only [Act.put, List.setIfInBounds_toArray, List.set_cons_zero, List.set_cons_succ]; rfl
        refine ord_call rfl rfl rfl rfl rfl Tryz.func81 rfl rfl [.pointer (some ⟨g, 0, none⟩), .int .i64 t] rfl ?_
        refine HPC.out.mono ?_
        rintro e w7 ⟨rfl, hg7⟩
        refine ⟨_, rfl, fun _ => hg7, ?_⟩
        simp only [Act.put, List.setIfInBounds_toArray, List.set_cons_zero, List.set_cons_succ]
        refine ord_pure rfl rfl rfl rfl rfl (fun _ _ _ _ h => h) ?_ ?_ ?_ ?_ ?_
        rotate_left 2
        · intro w'; go_simp; with_reducible rfl
        · simp only [Act.put, List.setIfInBounds_toArray, List.set_cons_zero, List.set_cons_succ]; rfl
        refine ord_call rfl rfl rfl rfl rfl Tryz.func80 rfl rfl [.pointer (some ⟨p'.q, 0, none⟩), .int .i64 key, .int .i64 (now + pa)] rfl ?_
        replace HT6 := Lib.hid ((HT6.out.grow (Keep.refl NoB w6).drew).grow hg7)
        refine (sset_calls HT6.out.sat key hkl (now + pa)).mono ?_
        rintro e w8 ⟨⟨v8, rfl⟩, F8, hS8, hK8, hG8⟩
        refine ⟨_, rfl, fun h => absurd (by simp) h, ?_⟩
        simp only [Act.put, List.setIfInBounds_toArray, List.set_cons_zero, List.set_cons_succ]
        refine ord_nil ?_
        rw [HT6.out.hrt] at hK8
        have HT8 := Lib.hid (HT6.out.sender hS8 HT6.out.hrt hK8 hG8)
        clear hS8 hK8 hG8 HT6 hg7 HPC c0 c1 c2 c3 c4 c5 c6 c7 c8 c9 c10 c11 c12 c13 c14 cf tc tf
        have hst8 := HT8.out.sat.tried key (t + 1) ht10 hbt
        rw [HT8.out.hrt] at hst8
        have hT9 := HT8.out.sender hst8.1 HT8.out.hrt hst8.2 (Grew.refl _ _)
        have hstep : { setD dk key (now + pa) with tries := (setD dk key (now + pa)).tries.set key (t + 1) } = stepD now key dk := by
          unfold stepD
          rw [HT0.out, HPA.out]
          rfl
        rw [hstep] at hT9
        have HT9 := Lib.hid hT9
        have HST : Hid ((stepD now key dk).tries.length = d0.tries.length) := Lib.hid (by rw [← HTLN.out]; exact List.length_set)
        obtain ⟨c0, c1, c2, c3, c4, c5, c6, c7, c8, c9, c10, c11, c12, c13, c14, cf⟩ := cells15 HT8.out.sat.cell
        obtain ⟨tc, tf⟩ := HT8.out.sat.try_cell key hkl
        have htc : (setD dk key (now + pa)).tries.getD key 0 = t := HT0.out
        rw [htc] at tc
        rw [HT8.out.hrt] at tc tf c13
        have c13' : w8.cell? ⟨g, 13, none⟩ = some (.slice (some ⟨p.rt, 0, none⟩) dk.tries.length p'.ct) := c13
        clear htc hstep hst8 hT9 c0 c1 c2 c3 c4 c5 c6 c7 c8 c9 c10 c11 c12 c13 c14 cf HT8
        go_wp2
        go_roundw
        case rel => exact ⟨k + 1, by omega, by go_num, p', _, F8, rows ++ [(ofG dk key, .slice A1 n1 k1, .slice A2 n2 k2)], v7, _, HT9.out, by rw [← hL2.out, List.map_append]; rfl, by rw [List.length_append, HRL.out]; rfl, HST.out⟩
        case measure => simp [intOf]; omega
    · obtain rfl : k = ds.length := by omega
      have hL2 := Lib.hid (show (dk, rows.map (·.1)) = tickL now ds d0 [] from by rw [List.drop_length, tickL] at hL; exact hL)
      clear hL hT hrl htl
      obtain ⟨Af, cf, rfl, _⟩ := own_slice HT.out.out.own
      have hcf := cell0 HT.out.cell
      have hlt' : ¬ ((ds.length : Int) < ds.length) := by omega
      go_wp2
      go_ret
      refine ⟨Af, cf, rows, rfl, _, _, _, ds, HDUE.out, HT.out.hrt, ?_, ?_, HT.out.out, HT.out.keep, HT.out.grew, fun j hj => HT.out.xd j (hj.elim (fun h => .inr (.inl h)) (fun h => .inr (.inr (.inl h))))⟩
      · rw [HD0.out, ← hL2.out]; exact HT.out.sat
      · rw [HD0.out, ← hL2.out]
end Go.Proofs.YtfkcpaahdlkcdaaGreat
set_option linter.unusedSimpArgs false
set_option linter.unusedVariables false
namespace Go.Proofs.YtfkcpaahdlkcdaaGreat
open Go.RowKit

theorem any_cut {P : Program} {ops : Array Oper} {Q : Exit → Act → World → Prop} {S : Nat → Prop} {ds : List Nat} {md : Region.Mode} {a : Act} {w : World} {n m : Nat} {l : Array Bool} (ord acts reads : List Nat) (l' : Array Bool)
    (hc : (Region.noSelect ops && ordOkC md ops acts reads ds (fun k => k == l') ord l && (n + ord.length == m)) = true)
    (h : wpOrdC S P ops Q (wpAnyG S P md ops Q ds n l') acts reads ds ord a w) : wpAnyG S P md ops Q ds m l a w := by
  simp only [Bool.and_eq_true, beq_iff_eq] at hc
  have := wpAnyG_of_ordC (n := n) hc.1.1 (fun k a w hl hq => by rw [beq_iff_eq.1 hl]; exact hq) ord _ a w hc.1.2 h
  rwa [hc.2] at this
theorem info_bytes : (Tryz.prog.info? 23).map (fun i => (i.zero, i.size, i.bytes)) = some (some (.slice none 0 0), 1, 24) := by kernel_rfl
theorem u_bss : Tryz.prog.underlying 129 = some (.slice 23) := by kernel_rfl
theorem check_fit {a : List (List Int)} (h : checkP a = 0) : fitsB (szs a) = true := by
  unfold checkP decP at h
  by_cases hf : fitsB (szs a) = true
  · exact hf
  · simp [hf] at h
theorem fit_flat {a : List (List Int)} (h : fitsB (szs a) = true) : a.flatten.length ≤ 4096 := by
  have h1 := szs_sum a
  unfold fitsB at h
  simp only [decide_eq_true_eq] at h
  omega
/-- The chunks of an arena. -/
def chsP (a : List (List Int)) : List (List Int) := (List.range (chunksN (szs a))).map (chunkP a)
theorem chsP_length (a : List (List Int)) : (chsP a).length = chunksN (szs a) := by simp [chsP]
/-- A new sender. -/
def newD (session : Int) (a : List (List Int)) (win back retry quota : Int) : Snd :=
  ⟨session, szs a, sumP session a, chsP a, win, back, retry, quota, 1, 0, makeB (pagesN (szs a) + chunksN (szs a)), List.replicate (pagesN (szs a) + chunksN (szs a)) 0, []⟩
theorem maniB_in (session : Int) (a : List (List Int)) : ∀ x ∈ maniB session a, 0 ≤ x ∧ x ≤ 255 := fun x hx => by
  unfold maniB at hx
  rcases List.mem_append.1 hx with hx | hx
  · rcases List.mem_append.1 hx with hx | hx
    · exact putB_in _ _ x hx
    · obtain ⟨y, _, hy⟩ := List.mem_flatMap.1 hx
      exact putB_in _ _ x hy
  · exact arenaB_in a x hx
theorem newD_ok {session : Int} {a : List (List Int)} {win back retry quota : Int} (h0 : 0 ≤ session) (h1 : session ≤ 18446744073709551615) (hf : fitsB (szs a) = true) (hc : OkC win back retry quota) : OkS (newD session a win back retry quota) := by
  refine ⟨h0, h1, moreN_lt (n := 0) (by omega) (maniB_in session a), hf, chsP_length a, fun x hx => ?_, hc, .inl rfl, by simp [newD], OkB.make _, ?_, ?_, fun x hx => ?_, fun x hx => by cases hx⟩
  · obtain ⟨i, _, rfl⟩ := List.mem_map.1 hx
    exact ⟨chunkP_length a i, chunkP_in a i⟩
  · show (makeB _).length = ((List.replicate _ (0 : Int)).length + 7) / 8
    rw [makeB_length, List.length_replicate]
  · show (List.replicate _ (0 : Int)).length = pagesN (szs a) + (chsP a).length
    rw [List.length_replicate, chsP_length]
  · have hx : x = 0 := List.eq_of_mem_replicate hx
    have := hc.retry1
    subst hx
    exact ⟨Int.le_refl _, by show (0 : Int) ≤ retry; omega⟩
/-- How it stands while New lays chunks. -/
structure NewI (g : Nat) (W : World) (session : Int) (a : List (List Int)) (win back retry quota : Int) (q : Nat) (As : Option Addr) (cs : Nat) (Fq G1 : Nat → Prop) (rows : List Value) (Ac : Option Addr) (cc : Nat) (Gc : Nat → Prop) (aa tt : Value) (w : World) : Prop where
  cell : w.heap[g]? = some (.cells #[.pointer (some ⟨q, 0, none⟩), .int .u64 session, .slice As (szs a).length cs, .int .u32 (sumP session a : Nat), .int .i64 (pagesN (szs a) : Nat), .slice Ac rows.length cc, .int .i64 win, .int .i64 back, .int .i64 retry, .int .i64 quota, .int .i64 1, .int .u16 0, aa, tt, .int .u64 session] 131 (0, 0))
  que : Que q [] Fq w
  sz : Foot (SliceR 1 (.slice As (szs a).length cs) (szs a).length (ints (szs a))) w G1
  own : w.ownsRow (g + 1) 23 1 (.slice Ac rows.length cc) rows.length rows
  rws : Foot (fun w => ∀ i (h : i < rows.length), ∃ A c, rows[i] = .slice A (chunkP a i).length c ∧ SliceR 1 (.slice A (chunkP a i).length c) (chunkP a i).length (u8s (chunkP a i)) w) w Gc
  fq : ∀ k, Fq k → W.heap.size ≤ k ∧ k < g
  fg : ∀ k, Fq k → ¬ G1 k
  g1 : ∀ k, G1 k → W.heap.size ≤ k ∧ k < g
  gc : ∀ k, Gc k → g < k
  dis : ∀ k, (Value.slice Ac rows.length cc).ownBlock = some k → ¬ Gc k
  grow : Grow W w
  wg : W.heap.size ≤ g
namespace NewI
variable {g : Nat} {W : World} {session : Int} {a : List (List Int)} {win back retry quota : Int} {q : Nat} {As : Option Addr} {cs : Nat} {Fq G1 : Nat → Prop} {rows : List Value} {Ac : Option Addr} {cc : Nat} {Gc : Nat → Prop} {aa tt : Value} {w w' : World}
theorem later (h : NewI g W session a win back retry quota q As cs Fq G1 rows Ac cc Gc aa tt w) (hk : Grow w w') : NewI g W session a win back retry quota q As cs Fq G1 rows Ac cc Gc aa tt w' :=
  ⟨Grow.heap hk h.cell, h.que.keep hk (fun _ _ h => h), h.sz.grow hk, own_keep h.own hk (fun _ _ h => h), h.rws.grow hk, h.fq, h.fg, h.g1, h.gc, h.dis, h.grow.grow hk, h.wg⟩
theorem acked (h : NewI g W session a win back retry quota q As cs Fq G1 rows Ac cc Gc aa tt w) (v : Value) : NewI g W session a win back retry quota q As cs Fq G1 rows Ac cc Gc v tt (w.setCell ⟨g, 12, none⟩ v) :=
  have hk := keep_put g 12 w v
  ⟨stored15_12 v h.cell, h.que.keep hk (fun k hk e => by have := (h.fq k hk).2; omega), h.sz.keep hk (fun k hk e => by have := (h.g1 k hk).2; omega), own_keep h.own hk (fun k hk e => by have := (h.own.lt k hk).1; omega), h.rws.keep hk (fun k hk e => by have := h.gc k hk; omega), h.fq, h.fg, h.g1, h.gc, h.dis, h.grow.setCell (p := ⟨g, 12, none⟩) (.inr h.wg) v, h.wg⟩
theorem tries (h : NewI g W session a win back retry quota q As cs Fq G1 rows Ac cc Gc aa tt w) (v : Value) : NewI g W session a win back retry quota q As cs Fq G1 rows Ac cc Gc aa v (w.setCell ⟨g, 13, none⟩ v) :=
  have hk := keep_put g 13 w v
  ⟨stored15_13 v h.cell, h.que.keep hk (fun k hk e => by have := (h.fq k hk).2; omega), h.sz.keep hk (fun k hk e => by have := (h.g1 k hk).2; omega), own_keep h.own hk (fun k hk e => by have := (h.own.lt k hk).1; omega), h.rws.keep hk (fun k hk e => by have := h.gc k hk; omega), h.fq, h.fg, h.g1, h.gc, h.dis, h.grow.setCell (p := ⟨g, 13, none⟩) (.inr h.wg) v, h.wg⟩
/-- One more chunk: its row, then the append, then the store. -/
theorem chunk (h : NewI g W session a win back retry quota q As cs Fq G1 rows Ac cc Gc aa tt w) {Fx : Nat → Prop} {A : Option Addr} {c : Nat} (hx : Foot (SliceR 1 (.slice A (chunkP a rows.length).length c) (chunkP a rows.length).length (u8s (chunkP a rows.length))) w Fx) (hxg : ∀ k, Fx k → g < k) (hxd : ∀ k, (Value.slice Ac rows.length cc).ownBlock = some k → ¬ Fx k)
    {A' : Option Addr} {c' : Nat} (hgr : w.grownBy w' (Value.slice Ac rows.length cc).ownBlock) (hown : w'.ownsRow (g + 1) 23 1 (.slice A' (rows.length + 1) c') (rows.length + 1) (rows ++ [.slice A (chunkP a rows.length).length c])) (hat : ∀ k, (Value.slice A' (rows.length + 1) c').ownBlock = some k → (Value.slice Ac rows.length cc).ownBlock = some k ∨ w.heap.size ≤ k) :
    NewI g W session a win back retry quota q As cs Fq G1 (rows ++ [.slice A (chunkP a rows.length).length c]) A' c' (fun k => Gc k ∨ Fx k) aa tt (w'.setCell ⟨g, 5, none⟩ (.slice A' (rows.length + 1) c')) := by
  have hkr : Keep (fun k => (Value.slice Ac rows.length cc).ownBlock = some k) w w' := (Keep.refl _ w).grown hgr (fun k hk => .inl hk)
  have hk5 := keep_put g 5 w' (.slice A' (rows.length + 1) c')
  have hK : Keep (fun k => k = g ∨ (Value.slice Ac rows.length cc).ownBlock = some k) w (w'.setCell ⟨g, 5, none⟩ (.slice A' (rows.length + 1) c')) := (hkr.mono (fun k e => .inr e)).trans (hk5.mono (fun k e => .inl e)) (fun _ h => .inl h)
  have hlo : ∀ k, (Value.slice Ac rows.length cc).ownBlock = some k → g < k := fun k hk => (h.own.lt k hk).1
  have hl : (rows ++ [Value.slice A (chunkP a rows.length).length c]).length = rows.length + 1 := by simp
  refine ⟨?_, h.que.keep hK (fun k hk e => ?_), h.sz.keep hK (fun k hk e => ?_), ?_, ?_, h.fq, h.fg, h.g1, fun k hk => hk.elim (h.gc k) (hxg k), fun k hk h2 => ?_, ?_, h.wg⟩
  · rw [hl]
    exact stored15_5 _ ((hkr.block g (Array.getElem?_eq_some_iff.1 h.cell).1 (fun e => by have := hlo g e; omega)).trans h.cell)
  · have := (h.fq k hk).2
    rcases e with e | e
    · omega
    · have := hlo k e; omega
  · have := (h.g1 k hk).2
    rcases e with e | e
    · omega
    · have := hlo k e; omega
  · rw [hl]
    exact own_keep hown hk5 (fun k hk e => by have := (hown.lt k hk).1; omega)
  · refine ((h.rws.and hx).imp (fun W2 hW i hi => ?_)).keep hK (fun k hk e => ?_)
    · rw [hl] at hi
      by_cases he : i < rows.length
      · obtain ⟨A2, c2, e2, h2⟩ := hW.1 i he
        exact ⟨A2, c2, by rw [List.getElem_append_left he]; exact e2, h2⟩
      · obtain rfl : i = rows.length := by omega
        exact ⟨A, c, by simp, hW.2⟩
    · rcases hk with hk | hk
      · rcases e with e | e
        · have := h.gc k hk; omega
        · exact h.dis k e hk
      · rcases e with e | e
        · have := hxg k hk; omega
        · exact hxd k e hk
  · rw [hl] at hk
    rcases hat k hk with e | e
    · rcases h2 with h2 | h2
      · exact h.dis k e h2
      · exact hxd k e h2
    · rcases h2 with h2 | h2
      · have := h.rws.lt h2; omega
      · have := hx.lt h2; omega
  · exact h.grow.trans hK (fun i hi => by
      have := h.wg
      rcases hi with e | e
      · exact .inr (by omega)
      · have := hlo i e
        exact .inr (by omega))
/-- It is a sender. -/
theorem done {rt N B : Nat} {Aa : Option Addr} {ca ct ba : Nat} (h : NewI g W session a win back retry quota q As cs Fq G1 rows Ac cc Gc (.slice Aa (makeB N).length ca) (.slice (some ⟨rt, 0, none⟩) N ct) w) (hok : OkS (newD session a win back retry quota)) (hr : rows.length = chunksN (szs a)) (hN : N = pagesN (szs a) + chunksN (szs a))
    (hA : w.ownsRow ba 5 1 (.slice Aa (makeB N).length ca) (makeB N).length (u8s (makeB N))) (hT : w.ownsRow 0 3 1 (.slice (some ⟨rt, 0, none⟩) N ct) N (ints (List.replicate N 0)))
    (hne : (Value.slice Aa (makeB N).length ca).ownBlock ≠ some rt) (hB1 : ∀ k, (Value.slice Aa (makeB N).length ca).ownBlock = some k → B ≤ k) (hB2 : B ≤ rt) (hB3 : g < B) (hB4 : ∀ k, ((Value.slice Ac rows.length cc).ownBlock = some k ∨ Gc k) → k < B) :
    ∃ p Fq' G, SAt g p (newD session a win back retry quota) Fq' G w ∧ Grow W w ∧ (∀ k, SF g p.rt Fq' k → W.heap.size ≤ k) ∧ ∀ k, G k → W.heap.size ≤ k := by
  have hlo : ∀ k, (Value.slice Ac rows.length cc).ownBlock = some k → g < k := fun k hk => (h.own.lt k hk).1
  have hcl : (chsP a).length = rows.length := by rw [chsP_length, hr]
  have hnl : (List.replicate (pagesN (szs a) + chunksN (szs a)) (0 : Int)).length = N := by rw [List.length_replicate, hN]
  have hwg := h.wg
  refine ⟨⟨q, rt, As, Ac, Aa, cs, cc, ca, ct⟩, Fq, fun k => (G1 k ∨ (Value.slice Ac rows.length cc).ownBlock = some k ∨ Gc k) ∨ (Value.slice Aa (makeB N).length ca).ownBlock = some k, ⟨?_, h.que, ?_, ?_, ⟨show g ≠ rt from by omega, fun e => by have := (h.fq g e).2; omega, fun e => by have := (h.fq rt e).2; omega, fun e => ?_, fun e => ?_, fun k hk e => ?_⟩, fun k hk => ?_, hok⟩, h.grow, fun k hk => ?_, fun k hk => ?_⟩
  · have := h.cell
    show _ = some (Obj.cells #[_, _, _, _, _, .slice Ac (chsP a).length cc, _, _, _, _, _, _, .slice Aa (makeB (pagesN (szs a) + chunksN (szs a))).length ca, .slice _ (List.replicate (pagesN (szs a) + chunksN (szs a)) (0 : Int)).length ct, _] _ _)
    rw [hcl, hnl, ← hN]
    exact this
  · show w.ownsRow 0 _ 1 (.slice _ (List.replicate (pagesN (szs a) + chunksN (szs a)) (0 : Int)).length ct) (List.replicate (pagesN (szs a) + chunksN (szs a)) (0 : Int)).length _
    rw [hnl]
    show w.ownsRow 0 _ 1 _ _ (ints (List.replicate (pagesN (szs a) + chunksN (szs a)) 0))
    rw [← hN]
    exact hT
  · refine ((h.sz.and ((Foot.of_own h.own).and h.rws)).and (Foot.of_own hA)).imp (fun W2 hW => ⟨hW.1.1, ?_, ?_⟩)
    · obtain ⟨⟨_, hs, hc⟩, _⟩ := hW
      show RowsR .u8 (chsP a) (.slice Ac (chsP a).length cc) W2
      refine ⟨Ac, cc, rfl, fun i hi => ?_⟩
      obtain ⟨A9, c9, e9, _, _, _, hcs⟩ := hs
      injection e9 with e9 _ _
      have hi2 : i < rows.length := by omega
      obtain ⟨A', c', e', hr'⟩ := hc i hi2
      obtain ⟨ad, had, hcell⟩ := hcs i rows[i] (List.getElem?_eq_getElem hi2)
      have hce : (chsP a)[i] = chunkP a i := by simp [chsP]
      rw [hce]
      refine ⟨ad, A', c', by rw [e9, had], by rw [hcell, e'], hr'⟩
    · show SliceR 1 (.slice Aa (makeB (pagesN (szs a) + chunksN (szs a))).length ca) (makeB (pagesN (szs a) + chunksN (szs a))).length (u8s (makeB (pagesN (szs a) + chunksN (szs a)))) W2
      rw [← hN]
      exact hW.2
  · rcases e with (e | e | e) | e
    · have := (h.g1 g e).2; omega
    · have := hlo g e; omega
    · have := h.gc g e; omega
    · have := hB1 g e; omega
  · rcases e with (e | e | e) | e
    · have := (h.g1 rt e).2; omega
    · have := hB4 rt (.inl e); omega
    · have := hB4 rt (.inr e); omega
    · exact hne e
  · have := (h.fq k hk).2
    rcases e with (e | e | e) | e
    · exact h.fg k hk e
    · have := hlo k e; omega
    · have := h.gc k e; omega
    · have := hB1 k e; omega
  · have h1 := (h.fq k hk).2
    have := (Array.getElem?_eq_some_iff.1 h.cell).1
    omega
  · rcases hk with e | e | e
    · omega
    · rw [e]; show W.heap.size ≤ rt; omega
    · exact (h.fq k e).1
  · rcases hk with (e | e | e) | e
    · exact (h.g1 k e).1
    · have := hlo k e; omega
    · have := h.gc k e; omega
    · have := hB1 k e; omega
end NewI
end Go.Proofs.YtfkcpaahdlkcdaaGreat

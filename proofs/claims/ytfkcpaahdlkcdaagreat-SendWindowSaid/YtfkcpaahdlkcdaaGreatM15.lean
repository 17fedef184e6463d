import Derived.Test.YtfkcpaahdlkcdaaGreatM14
/-! Joined: SnC, SnD, SnE, SnF, SnH, SnI, SnJ. -/
set_option linter.unusedSimpArgs false
set_option linter.unusedVariables false
namespace Go.Proofs.YtfkcpaahdlkcdaaGreat
open Go.RowKit

theorem ints_set (l : List Int) (i : Nat) (x : Int) : (ints l).set i (.int .i64 x) = ints (l.set i x) := by
  unfold ints; exact List.map_set.symm
theorem okI_nat {k : Nat} (h : k ≤ 1000000) : okI (k : Int) := okI_of (by omega) (by omega)
/-- Behind fresh. -/
def freshD (d : Snd) (key : Nat) : Snd := { d with tm := delL d.tm key, tries := d.tries.set key 0 }
theorem OkS.fresh {d : Snd} (h : OkS d) (key : Nat) : OkS (freshD d key) := by
  refine ⟨h.s0, h.s1, h.sum, h.fit, h.ch, h.chl, h.conf, h.phase, h.err, h.acked, ?_, ?_, ?_, ?_⟩
  · show d.acked.length = ((d.tries.set key 0).length + 7) / 8
    rw [List.length_set]; exact h.alen
  · show (d.tries.set key 0).length = _
    rw [List.length_set]; exact h.tlen
  · intro x hx
    rcases List.mem_or_eq_of_mem_set hx with hx | rfl
    · exact h.tr x hx
    · have := h.conf.retry1
      show 0 ≤ (0 : Int) ∧ (0 : Int) ≤ d.retry
      omega
  · intro x hx
    have := h.tm x (mem_delL.1 hx).1
    show 0 ≤ x.1 ∧ x.1 < ((d.tries.set key 0).length : Nat)
    rw [List.length_set]; exact this
set_option maxRecDepth 100000 in
set_option maxHeartbeats 2000000 in
theorem fresh_calls {g : Nat} {p : SP} {d : Snd} {Fq G : Nat → Prop} {w : World} (h : SAt g p d Fq G w) (key : Nat) (hk : key < d.tries.length) :
    Calls Tryz.prog 254 #[.pointer (some ⟨g, 0, none⟩), .int .i64 key] w fun e w' => (∃ v, e = .returned v) ∧ SAt g p (freshD d key) Fq G w' ∧ Keep (SF g p.rt Fq) w w' := by
  have hn := h.ok.n
  obtain ⟨c0, c1, c2, c3, c4, c5, c6, c7, c8, c9, c10, c11, c12, c13, c14, cf⟩ := cells15 h.cell
  have H := Lib.hid h
  clear h
  go_enter Tryz.func254, Tryz.ntmps254
  go_wp2_with fail
  refine (tdrop_calls H.out.que key (okI_nat (by omega))).mono ?_
  rintro e w1 ⟨rfl, hQ, hK⟩
  obtain ⟨d1, d2, d3, d4, d5, d6⟩ := H.out.dis
  clear c0 c1 c2 c3 c4 c5 c6 c7 c8 c9 c10 c11 c12 c13 c14 cf
  have hc1 := (hK.block g H.out.gq d2).trans H.out.cell
  obtain ⟨c0, c1, c2, c3, c4, c5, c6, c7, c8, c9, c10, c11, c12, c13, c14, cf⟩ := cells15 hc1
  have htr := own_keep H.out.tri hK (fun k hk => by cases hk; exact d3)
  obtain ⟨c, hc⟩ : ∃ c, w1.cell? ⟨p.rt, key, none⟩ = some c := by
    obtain ⟨r, c2, e, _, _, hcs⟩ := own_cells htr (by omega)
    injection e with e1
    injection e1 with e1
    injection e1 with e1
    have := hcs key ((ints d.tries)[key]'(by simp [ints]; omega)) (List.getElem?_eq_getElem _)
    rw [← e1] at this
    exact ⟨_, by simpa using this⟩
  have hf : w1.frozen? ⟨p.rt, key, none⟩ = false := htr.frozenAt _
  have hk' : (key : Int) < d.tries.length := by omega
  have hst := htr.stored key (.int .i64 0)
  rw [ints_set] at hst
  have hK2 : Keep (fun k => k = p.rt) w1 (w1.setCell ⟨p.rt, key, none⟩ (.int .i64 0)) := (Keep.refl (fun k => k = p.rt) w1).setCell (p := ⟨p.rt, key, none⟩) (.inl rfl) _
  have HS : Hid (SAt g p (freshD d key) Fq G (w1.setCell ⟨p.rt, key, none⟩ (.int .i64 0))) := by
    have hl : (d.tries.set key 0).length = d.tries.length := List.length_set
    refine ⟨?_, hQ.keep hK2 (fun k hk e => d3 (e ▸ hk)), ?_, (H.out.ro.keep hK (fun k hk e => d6 k e hk)).keep hK2 (fun k hk e => d5 (e ▸ hk)), ⟨d1, d2, d3, d4, d5, d6⟩, fun k hk => Nat.lt_of_lt_of_le (H.out.lt k hk) (by simpa using hK.size), H.out.ok.fresh key⟩
    · show _ = some (Obj.cells #[_, _, _, _, _, _, _, _, _, _, _, _, _, .slice _ (d.tries.set key 0).length _, _] _ _)
      rw [hl]
      exact (hK2.block g (Array.getElem?_eq_some_iff.1 hc1).1 d1).trans hc1
    · show World.ownsRow _ _ _ _ (.slice _ (d.tries.set key 0).length _) (d.tries.set key 0).length (ints (d.tries.set key 0))
      rw [hl]
      exact hst.1
  have HK : Hid (Keep (SF g p.rt Fq) w (w1.setCell ⟨p.rt, key, none⟩ (.int .i64 0))) :=
    Lib.hid ((hK.mono (fun k hk => (.inr (.inr hk) : SF g p.rt Fq k))).trans (hK2.mono (fun k e => (.inr (.inl e) : SF g p.rt Fq k))) (fun _ h => .inl h))
  clear hK hQ hst hK2 htr d1 d2 d3 d4 d5 d6 hc1
  go_wp2
  go_end0
  exact ⟨⟨_, rfl⟩, HS.out, HK.out⟩

/-- Behind known: all that either has is fresh. -/
def knD (all was : List Int) : Nat → Snd → Snd
  | 0, d => d
  | k + 1, d => if (getB all k || getB was k) = true then freshD (knD all was k d) k else knD all was k d
theorem knD_len (all was : List Int) (d : Snd) : ∀ k, (knD all was k d).tries.length = d.tries.length
  | 0 => rfl
  | k + 1 => by
    unfold knD
    split
    · show ((knD all was k d).tries.set k 0).length = _
      rw [List.length_set]; exact knD_len all was d k
    · exact knD_len all was d k
def ackD (d : Snd) (all : List Int) : Snd := { d with acked := all }
theorem OkS.ack {d : Snd} (h : OkS d) (all : List Int) (hb : OkB all) (hl : all.length = (d.tries.length + 7) / 8) : OkS (ackD d all) :=
  ⟨h.s0, h.s1, h.sum, h.fit, h.ch, h.chl, h.conf, h.phase, h.err, hb, hl, h.tlen, h.tr, h.tm⟩
set_option maxRecDepth 100000 in
set_option maxHeartbeats 4000000 in
theorem known_calls {g : Nat} {p : SP} {d : Snd} {Fq G Ga : Nat → Prop} {w : World} (h : SAt g p d Fq G w) (all : List Int) (hb : OkB all) (hl : all.length = (d.tries.length + 7) / 8) (A : Option Addr) (c : Nat)
    (hr : Foot (SliceR 1 (.slice A all.length c) all.length (u8s all)) w Ga) (hGa : ∀ k, Ga k → ¬ SF g p.rt Fq k) :
    Calls Tryz.prog 218 #[.pointer (some ⟨g, 0, none⟩), .slice A all.length c] w fun e w' => (∃ v, e = .returned v) ∧ SAt g { p with Aa := A, ca := c } (knD all d.acked d.tries.length (ackD d all)) Fq (fun k => G k ∨ Ga k) w' ∧ Keep (SF g p.rt Fq) w w' := by
  have hn := h.ok.n
  obtain ⟨c0, c1, c2, c3, c4, c5, c6, c7, c8, c9, c10, c11, c12, c13, c14, cf⟩ := cells15 h.cell
  obtain ⟨d1, d2, d3, d4, d5, d6⟩ := h.dis
  have hK : Keep (fun k => k = g) w (w.setCell ⟨g, 12, none⟩ (.slice A all.length c)) := (Keep.refl (fun k => k = g) w).setCell (p := ⟨g, 12, none⟩) (.inl rfl) _
  have HS : Hid (SAt g { p with Aa := A, ca := c } (ackD d all) Fq (fun k => G k ∨ Ga k) (w.setCell ⟨g, 12, none⟩ (.slice A all.length c))) := by
    refine ⟨stored15_12 _ h.cell, h.que.keep hK (fun k hk e => d2 (e ▸ hk)), own_keep h.tri hK (fun k hk e => by cases hk; exact d1 e.symm), ?_, ⟨d1, d2, d3, fun h => ?_, fun h => ?_, fun k hk h => ?_⟩, fun k hk => by simpa using h.lt k hk, h.ok.ack all hb hl⟩
    · have h1 := h.ro.keep hK (fun k hk e => d4 (e ▸ hk))
      have h2 := hr.keep hK (fun k hk e => hGa k hk (.inl e))
      exact (h1.and h2).imp (fun W hW => ⟨hW.1.1, hW.1.2.1, hW.2⟩)
    · rcases h with h | h
      · exact d4 h
      · exact hGa _ h (.inl rfl)
    · rcases h with h | h
      · exact d5 h
      · exact hGa _ h (.inr (.inl rfl))
    · rcases h with h | h
      · exact d6 k hk h
      · exact hGa _ h (.inr (.inr hk))
  have HW : Hid (Foot (SliceR 1 (.slice p.Aa d.acked.length p.ca) d.acked.length (u8s d.acked)) (w.setCell ⟨g, 12, none⟩ (.slice A all.length c)) G) := Lib.hid ((h.ro.keep hK (fun k hk e => d4 (e ▸ hk))).imp (fun W hW => hW.2.2))
  have HK : Hid (Keep (SF g p.rt Fq) w (w.setCell ⟨g, 12, none⟩ (.slice A all.length c))) := Lib.hid (hK.mono (fun k e => .inl e))
  have HD : Hid (∀ k, G k → ¬ SF g p.rt Fq k) := Lib.hid (fun k hk e => by
    rcases e with e | e | e
    · exact d4 (e ▸ hk)
    · exact d5 (e ▸ hk)
    · exact d6 k e hk)
  have HR : Hid (Foot (SliceR 1 (.slice A all.length c) all.length (u8s all)) (w.setCell ⟨g, 12, none⟩ (.slice A all.length c)) Ga) := Lib.hid (hr.keep hK (fun k hk e => hGa k hk (.inl e)))
  have HGA := Lib.hid hGa
  have HB := Lib.hid hb
  have HA := Lib.hid h.ok.acked
  clear h hr hGa hK hb hl d1 d2 d3 d4 d5 d6
  go_enter Tryz.func218, Tryz.ntmps218
  go_wp2
  generalize w.setCell ⟨g, 12, none⟩ (.slice A all.length c) = w1 at HS HW HK HR ⊢
  clear c0 c1 c2 c3 c4 c5 c6 c7 c8 c9 c10 c11 c12 c13 c14 cf
  go_loopw [19] (fun v wr => ∃ k : Nat, k ≤ d.tries.length ∧ v = .int .i64 k ∧ Hid (SAt g { p with Aa := A, ca := c } (knD all d.acked k (ackD d all)) Fq (fun k => G k ∨ Ga k) wr ∧ Keep (SF g p.rt Fq) w wr ∧ Foot (SliceR 1 (.slice p.Aa d.acked.length p.ca) d.acked.length (u8s d.acked)) wr G ∧ Foot (SliceR 1 (.slice A all.length c) all.length (u8s all)) wr Ga)) (fun v _ => d.tries.length - (intOf v).toNat)
  case atStart => exact ⟨0, by omega, rfl, HS.out, HK.out, HW.out, HR.out⟩
  case round =>
    clear HS HK HW HR
    obtain ⟨k, hk, rfl, HH⟩ := hrel
    by_cases hlt : k < d.tries.length
    · have hlt' : (k : Int) < d.tries.length := by omega
      have hw : IntKind.i64.wrap ((k : Int) + 1) = (k : Int) + 1 := IntWalk.i64_in _ (by omega)
      have Hkl := Lib.hid (knD_len all d.acked (ackD d all) k)
      have fin : ∀ w2, (∃ v, (Ending.returned v : Ending) = .returned v) → SAt g { p with Aa := A, ca := c } (freshD (knD all d.acked k (ackD d all)) k) Fq (fun k => G k ∨ Ga k) w2 → Keep (SF g p.rt Fq) wr w2 →
          Keep (SF g p.rt Fq) w w2 ∧ Foot (SliceR 1 (.slice p.Aa d.acked.length p.ca) d.acked.length (u8s d.acked)) w2 G ∧ Foot (SliceR 1 (.slice A all.length c) all.length (u8s all)) w2 Ga := fun w2 _ _ h2 =>
        ⟨HH.out.2.1.trans h2 (fun _ h => .inl h), HH.out.2.2.1.keep h2 HD.out, HH.out.2.2.2.keep h2 HGA.out⟩
      have FIN := Lib.hid fin
      clear fin
      rcases hb1 : getB all k with _ | _
      · rcases hb2 : getB d.acked k with _ | _
        · have Hno : Hid (knD all d.acked (k + 1) (ackD d all) = knD all d.acked k (ackD d all)) := Lib.hid (by simp [knD, hb1, hb2])
          have Hb1 := Lib.hid hb1
          have Hb2 := Lib.hid hb2
          clear hb1 hb2
          go_wp2_with fail
          refine (bget_calls A c all HB.out k (by omega) wr HH.out.2.2.2.now).mono ?_
          rintro e w2 ⟨rfl, rfl⟩
          rw [Hb1.out]
          go_wp2_with fail
          refine (bget_calls p.Aa p.ca d.acked HA.out k (by omega) wr HH.out.2.2.1.now).mono ?_
          rintro e w2 ⟨rfl, rfl⟩
          rw [Hb2.out]
          go_wp2
          go_roundw
          case rel => exact ⟨k + 1, by omega, by go_num, by rw [Hno.out]; exact HH⟩
          case measure => simp [intOf]; omega
        · have Hyes : Hid (knD all d.acked (k + 1) (ackD d all) = freshD (knD all d.acked k (ackD d all)) k) := Lib.hid (by simp [knD, hb1, hb2])
          have Hb1 := Lib.hid hb1
          have Hb2 := Lib.hid hb2
          clear hb1 hb2
          go_wp2_with fail
          refine (bget_calls A c all HB.out k (by omega) wr HH.out.2.2.2.now).mono ?_
          rintro e w2 ⟨rfl, rfl⟩
          rw [Hb1.out]
          go_wp2_with fail
          refine (bget_calls p.Aa p.ca d.acked HA.out k (by omega) wr HH.out.2.2.1.now).mono ?_
          rintro e w2 ⟨rfl, rfl⟩
          rw [Hb2.out]
          go_wp2_with fail
          refine (fresh_calls HH.out.1 k (by rw [Hkl.out]; exact hlt)).mono ?_
          rintro e w3 ⟨⟨v3, rfl⟩, hS3, hK3⟩
          have HH3 := Lib.hid (And.intro hS3 (FIN.out w3 ⟨v3, trivial⟩ hS3 hK3))
          clear hS3 hK3
          go_wp2
          go_roundw
          case rel => exact ⟨k + 1, by omega, by go_num, by rw [Hyes.out]; exact HH3⟩
          case measure => simp [intOf]; omega
      · have Hyes : Hid (knD all d.acked (k + 1) (ackD d all) = freshD (knD all d.acked k (ackD d all)) k) := Lib.hid (by simp [knD, hb1])
        have Hb1 := Lib.hid hb1
        clear hb1
        go_wp2_with fail
        refine (bget_calls A c all HB.out k (by omega) wr HH.out.2.2.2.now).mono ?_
        rintro e w2 ⟨rfl, rfl⟩
        rw [Hb1.out]
        go_wp2_with fail
        refine (fresh_calls HH.out.1 k (by rw [Hkl.out]; exact hlt)).mono ?_
        rintro e w3 ⟨⟨v3, rfl⟩, hS3, hK3⟩
        have HH3 := Lib.hid (And.intro hS3 (FIN.out w3 ⟨v3, trivial⟩ hS3 hK3))
        clear hS3 hK3
        go_wp2
        go_roundw
        case rel => exact ⟨k + 1, by omega, by go_num, by rw [Hyes.out]; exact HH3⟩
        case measure => simp [intOf]; omega
    · obtain rfl : k = d.tries.length := by omega
      have hlt' : ¬ ((d.tries.length : Int) < d.tries.length) := by omega
      go_wp2
      go_end0
      exact ⟨⟨_, rfl⟩, HH.out.1, HH.out.2.1⟩
end Go.Proofs.YtfkcpaahdlkcdaaGreat
set_option linter.unusedSimpArgs false
set_option linter.unusedVariables false
namespace Go.Proofs.YtfkcpaahdlkcdaaGreat
open Go.RowKit

theorem u_takes : Tryz.prog.underlying 165 = some (.map 3 164) := by kernel_rfl
theorem Keep.setObj {S : Nat → Prop} {a b : World} (h : Keep S a b) {r : Nat} (hr : S r ∨ a.heap.size ≤ r) (o : Obj) : Keep S a { b with heap := b.heap.setIfInBounds r o } :=
  ⟨h.os, h.tape, h.output, by simpa using h.size, fun i hi hS => by
    show (b.heap.setIfInBounds r o)[i]? = _
    rw [Array.getElem?_setIfInBounds_ne (by intro e; subst e; rcases hr with hr | hr; exact hS hr; omega)]
    exact h.block i hi hS⟩
/-- A new key is put into a map whose entries are known. -/
theorem upd_int {w : World} {r clock : Nat} {es : Array MapEntry} (k : Int) (val : Value) (hb : w.heap[r]? = some (.map es clock)) (hf : Instr.findNow (.int .i64) (.int .i64 k) es.toList 0 = some none) :
    ∃ w2, (Instr.mapUpdate 165 (.map (some r)) (.int .i64 k) val).run Tryz.prog w = .ok () w2 ∧ w2.heap[r]? = some (.map (es.push { key := .int .i64 k, val := val, born := clock }) (clock + 1)) ∧ Keep (fun k => k = r) w w2 := by
  refine ⟨{ w with heap := w.heap.setIfInBounds r (.map (es.push { key := .int .i64 k, val := val, born := clock }) (clock + 1)) }, ?_, (MapKept.heap_set hb).1, (Keep.refl (fun k => k = r) w).setObj (.inl rfl) _⟩
  have hc : (Instr.checkKey false 10000 3 (.int .i64 k)).run Tryz.prog w = .ok () w := MapKept.run_checkKey u_int (by simp [MapKept.IsKey]) false 9999
  simp [Instr.mapUpdate, run_underlying u_takes, MapKept.run_getObj_map hb, hc, MapKept.run_findKey u_int hf, MapKept.run_setObj_map _ hb, Result.andThen]
def takesE : Array MapEntry := #[⟨.int .i64 3, .func (.func 161) #[] #[], 0⟩, ⟨.int .i64 4, .func (.func 161) #[] #[], 1⟩, ⟨.int .i64 5, .func (.func 162) #[] #[], 2⟩, ⟨.int .i64 6, .func (.func 163) #[] #[], 3⟩, ⟨.int .i64 8, .func (.func 164) #[] #[], 4⟩]
set_option maxRecDepth 100000 in
set_option maxHeartbeats 2000000 in
theorem takes_calls (w : World) :
    Calls Tryz.prog 101 #[] w fun e w' => ∃ b, e = .returned (.map (some b)) ∧ w'.heap[b]? = some (.map takesE 5) ∧ Grow w w' := by
  have hm := @run_makeMap Tryz.prog
  have hb0 := heap_alloc_new w (.map #[] 0)
  have hg0 := (Keep.refl NoB w).alloc (.map #[] 0)
  have hg : Keep (fun k => k = w.heap.size) w (w.alloc (.map #[] 0)) := hg0.mono (fun _ h => h.elim)
  obtain ⟨w1, r1, b1, k1⟩ := upd_int 3 (.func (.func 161) #[] #[]) hb0 rfl
  obtain ⟨w2, r2, b2, k2⟩ := upd_int 4 (.func (.func 161) #[] #[]) b1 (by rfl)
  obtain ⟨w3, r3, b3, k3⟩ := upd_int 5 (.func (.func 162) #[] #[]) b2 (by rfl)
  obtain ⟨w4, r4, b4, k4⟩ := upd_int 6 (.func (.func 163) #[] #[]) b3 (by rfl)
  obtain ⟨w5, r5, b5, k5⟩ := upd_int 8 (.func (.func 164) #[] #[]) b4 (by rfl)
  have hgr : Hid (Grow w w5) := Lib.hid ((((((hg.trans k1 (fun _ h => .inl h)).trans k2 (fun _ h => .inl h)).trans k3 (fun _ h => .inl h)).trans k4 (fun _ h => .inl h)).trans k5 (fun _ h => .inl h)).new (fun i e => by rw [e]; exact Nat.le_refl _))
  have HB := Lib.hid (show w5.heap[w.heap.size]? = some (.map takesE 5) from b5)
  clear b1 b2 b3 b4 b5 k1 k2 k3 k4 k5 hb0 hg hg0
  go_enter Tryz.func101, Tryz.ntmps101
  go_wp2
  go_ret
  exact ⟨_, rfl, HB.out, hgr.out⟩
/-- What a kind of datagram does. -/
def takesF (k : Int) : Value := if k = 3 then .func (.func 161) #[] #[] else if k = 4 then .func (.func 161) #[] #[] else if k = 5 then .func (.func 162) #[] #[] else if k = 6 then .func (.func 163) #[] #[] else if k = 8 then .func (.func 164) #[] #[] else .nilFunc
theorem look_takes {w : World} {b : Nat} (hb : w.heap[b]? = some (.map takesE 5)) (k : Int) : (Instr.lookup 165 (.map (some b)) (.int .i64 k) false).run Tryz.prog w = .ok (takesF k) w := by
  have hc : (Instr.checkKey false 10000 3 (.int .i64 k)).run Tryz.prog w = .ok () w := MapKept.run_checkKey u_int (by simp [MapKept.IsKey]) false 9999
  have hz : (zeroValue 164).run Tryz.prog w = .ok .nilFunc w := by simp [Tryz.zeroValue164]
  have hf : ∃ r, Instr.findNow (.int .i64) (.int .i64 k) takesE.toList 0 = some r ∧ (match r with | some (_, v) => v | none => .nilFunc) = takesF k := by
    unfold takesF
    by_cases h3 : k = 3
    · subst h3; exact ⟨_, rfl, rfl⟩
    by_cases h4 : k = 4
    · subst h4; exact ⟨_, rfl, rfl⟩
    by_cases h5 : k = 5
    · subst h5; exact ⟨_, rfl, rfl⟩
    by_cases h6 : k = 6
    · subst h6; exact ⟨_, rfl, rfl⟩
    by_cases h8 : k = 8
    · subst h8; exact ⟨_, rfl, rfl⟩
    refine ⟨none, ?_, by simp [h3, h4, h5, h6, h8]⟩
    have e3 : (k == 3) = false := by simpa using h3
    have e4 : (k == 4) = false := by simpa using h4
    have e5 : (k == 5) = false := by simpa using h5
    have e6 : (k == 6) = false := by simpa using h6
    have e8 : (k == 8) = false := by simpa using h8
    simp [takesE, Instr.findNow, Instr.sameNow]
    rw [e3, e4, e5, e6, e8]
  obtain ⟨r, hr, hv⟩ := hf
  rw [← hv]
  have he : (takesE.isEmpty) = false := rfl
  rcases r with _ | ⟨i, v⟩
  · simp [Instr.lookup, run_underlying u_takes, MapKept.run_getObj_map hb, hc, he, MapKept.run_findKey u_int hr, hz, Result.andThen]
  · simp [Instr.lookup, run_underlying u_takes, MapKept.run_getObj_map hb, hc, he, MapKept.run_findKey u_int hr, Result.andThen]
end Go.Proofs.YtfkcpaahdlkcdaaGreat
set_option linter.unusedSimpArgs false
set_option linter.unusedVariables false
namespace Go.Proofs.YtfkcpaahdlkcdaaGreat
open Go.RowKit

/-- The first k of n bits are set. -/
def fullB (n : Nat) : Nat → List Int
  | 0 => makeB n
  | k + 1 => setB (fullB n k) k
theorem fullB_length (n : Nat) : ∀ k, (fullB n k).length = (n + 7) / 8
  | 0 => makeB_length n
  | k + 1 => by unfold fullB; rw [setB_length]; exact fullB_length n k
theorem fullB_ok (n : Nat) : ∀ k, OkB (fullB n k)
  | 0 => OkB.make n
  | k + 1 => (fullB_ok n k).set k
theorem fullB_get (n : Nat) : ∀ k, k ≤ n → ∀ j, getB (fullB n k) j = decide (j < k)
  | 0, _, j => by simp [fullB, getB_make]
  | k + 1, hk, j => by
    unfold fullB
    rw [getB_set, fullB_get n k (by omega), fullB_length]
    have : k / 8 < (n + 7) / 8 := by omega
    by_cases h : j = k
    · subst h; simp [this]
    · by_cases h2 : j < k
      · simp [h2]; omega
      · have : ¬ j < k + 1 := by omega
        simp [h, h2, this]
/-- Behind fin. -/
def finD (d : Snd) : Snd := { knD (fullB d.tries.length d.tries.length) d.acked d.tries.length (ackD d (fullB d.tries.length d.tries.length)) with phase := 2, err := 0, tm := [] }
/-- One datagram is told. -/
def OneG (w : World) (b : Nat) (kind session index of : Int) (sum : Nat) : Prop := w.heap[b]? = some (.cells #[.int .i64 kind, .int .u64 session, .int .i64 index, .int .i64 of, .int .u32 (sum : Nat), .slice none 0 0, .slice none 0 0] 46 (0, 0))
theorem knD_st (all was : List Int) (d : Snd) : ∀ k, (knD all was k d).session = d.session ∧ (knD all was k d).sum = d.sum ∧ (knD all was k d).acked = d.acked ∧ (knD all was k d).ch = d.ch ∧ (knD all was k d).sz = d.sz ∧ (knD all was k d).phase = d.phase ∧ (knD all was k d).err = d.err
  | 0 => ⟨rfl, rfl, rfl, rfl, rfl, rfl, rfl⟩
  | k + 1 => by
    unfold knD
    split
    · exact knD_st all was d k
    · exact knD_st all was d k
set_option maxRecDepth 100000 in
set_option maxHeartbeats 4000000 in
theorem fin_calls {g : Nat} {p : SP} {d : Snd} {Fq G : Nat → Prop} {w : World} (h : SAt g p d Fq G w) (hgl : ∀ k, SF g p.rt Fq k → k < w.heap.size) (kind session index of : Int) (A1 A2 : Option Addr) (n1 c1' n2 c2' : Nat) :
    Calls Tryz.prog 163 #[.pointer (some ⟨g, 0, none⟩), .agg #[.int .i64 kind, .int .u64 session, .int .i64 index, .int .i64 of, .int .u32 (d.sum : Nat), .slice A1 n1 c1', .slice A2 n2 c2']] w fun e w' =>
      ∃ b p' Fq' G', e = .returned (.slice (some ⟨b, 0, none⟩) 1 1) ∧ OneG w' b 7 d.session 0 0 d.sum ∧ SAt g p' (finD d) Fq' G' w' ∧ Keep (SF g p.rt Fq) w w' ∧ p'.rt = p.rt ∧ (∀ k, Fq' k → w.heap.size ≤ k) ∧ w.heap.size ≤ b ∧ ¬ Fq' b ∧ ∀ k, G' k → G k ∨ w.heap.size ≤ k := by
  have hn := h.ok.n
  have HGL := Lib.hid hgl
  have hd0 := (Keep.refl NoB w).alloc (.cells #[.int .i64 kind, .int .u64 session, .int .i64 index, .int .i64 of, .int .u32 (d.sum : Nat), .slice A1 n1 c1', .slice A2 n2 c2'] 46)
  have HG := Lib.hid hd0
  have HC := Lib.hid (heap_alloc_new w (.cells #[.int .i64 kind, .int .u64 session, .int .i64 index, .int .i64 of, .int .u32 (d.sum : Nat), .slice A1 n1 c1', .slice A2 n2 c2'] 46))
  have H := Lib.hid (h.grow hd0)
  clear h hgl hd0
  go_enter Tryz.func163, Tryz.ntmps163
  go_wp2
  generalize w.alloc (.cells #[.int .i64 kind, .int .u64 session, .int .i64 index, .int .i64 of, .int .u32 (d.sum : Nat), .slice A1 n1 c1', .slice A2 n2 c2'] 46) = w1 at HG H HC ⊢
  obtain ⟨c0, c1, c2, c3, c4, c5, c6, c7, c8, c9, c10, c11, c12, c13, c14, cf⟩ := cells15 H.out.cell
  obtain ⟨z0, z1, z2, z3, z4, z5, z6, zf⟩ := cells7 HC.out
  refine region_ord [0, 1, 2, 3, 4, 5, 6, 7] [] [1, 6] [] rfl (by kernel_rfl) ?_
  refine ord_pure rfl rfl rfl rfl rfl (fun _ _ _ _ h => h) ?_ ?_ ?_ ?_ ?_
  rotate_left 2
  · intro w'; go_simp; with_reducible rfl
  · simp only [Act.put, List.setIfInBounds_toArray, List.set_cons_zero, List.set_cons_succ]; rfl
  refine ord_read rfl rfl rfl rfl rfl (fun _ _ _ _ h => h) ?_ ?_ ?_ ?_ ?_
  rotate_left 2
  · intro w' hg; have q := hg.cell z4 (fun h => h); go_simp; with_reducible rfl
  · simp only [Act.put, List.setIfInBounds_toArray, List.set_cons_zero, List.set_cons_succ]; rfl
  iterate 4
    refine ord_pure rfl rfl rfl rfl rfl (fun _ _ _ _ h => h) ?_ ?_ ?_ ?_ ?_
    rotate_left 2
    · intro w'; go_simp; with_reducible rfl
    · simp only [Act.put, List.setIfInBounds_toArray, List.set_cons_zero, List.set_cons_succ]; rfl
  refine ord_read rfl rfl rfl rfl rfl (fun _ _ _ _ h => h) ?_ ?_ ?_ ?_ ?_
  rotate_left 2
  · intro w' hg; have q := hg.cell c3 (fun h => h); go_simp; with_reducible rfl
  · simp only [Act.put, List.setIfInBounds_toArray, List.set_cons_zero, List.set_cons_succ]; rfl
  refine ord_pure rfl rfl rfl rfl rfl (fun _ _ _ _ h => h) ?_ ?_ ?_ ?_ ?_
  rotate_left 2
  · intro w'; go_simp; with_reducible rfl
  · simp only [Act.put, List.setIfInBounds_toArray, List.set_cons_zero, List.set_cons_succ]; rfl
  refine ord_nil ?_
  clear z0 z1 z2 z3 z4 z5 z6 zf HC
  have HK : Hid (Keep (SF g p.rt Fq) w w1.drew) := Lib.hid ((HG.out.drew).mono (fun _ h => h.elim))
  replace H := Lib.hid (H.out.grow (Keep.refl NoB w1).drew)
  generalize w1.drew = w2 at H HK ⊢
  clear c0 c1 c2 c3 c4 c5 c6 c7 c8 c9 c10 c11 c12 c13 c14 cf
  obtain ⟨c0, c1, c2, c3, c4, c5, c6, c7, c8, c9, c10, c11, c12, c13, c14, cf⟩ := cells15 H.out.cell
  go_wp2_with fail
  refine (bmake_calls d.tries.length (by omega) w2).mono ?_
  rintro e w3 ⟨A3, c3', rfl, hg, hob⟩
  have HO3 : Hid (w3.ownsRow w.heap.size 5 1 (.slice A3 (fullB d.tries.length 0).length c3') (fullB d.tries.length 0).length (u8s (fullB d.tries.length 0))) := Lib.hid (own_le hob HK.out.size)
  replace H := Lib.hid (H.out.grow hg)
  replace HK := Lib.hid (HK.out.grow hg)
  clear hg hob c0 c1 c2 c3 c4 c5 c6 c7 c8 c9 c10 c11 c12 c13 c14 cf
  obtain ⟨c0, c1, c2, c3, c4, c5, c6, c7, c8, c9, c10, c11, c12, c13, c14, cf⟩ := cells15 H.out.cell
  go_wp2
  clear c0 c1 c2 c3 c4 c5 c6 c7 c8 c9 c10 c11 c12 c13 c14 cf
  obtain ⟨n, hn9⟩ : ∃ n, d.tries.length = n := ⟨_, rfl⟩
  have HN := Lib.hid hn9
  rw [hn9] at HO3 hn ⊢
  clear hn9
  go_loopw [5, 26] (fun s v wr => ∃ k : Nat, k ≤ n ∧ v = .int .i64 k ∧ ∃ A c, s = .slice A (fullB n k).length c ∧ Hid (SAt g p d Fq G wr ∧ Keep (SF g p.rt Fq) w wr ∧ wr.ownsRow w.heap.size 5 1 (.slice A (fullB n k).length c) (fullB n k).length (u8s (fullB n k)))) (fun s v _ => n - (intOf v).toNat)
  case atStart => exact ⟨0, by omega, rfl, A3, c3', rfl, H.out, HK.out, HO3.out⟩
  case round =>
    clear H HK HO3
    obtain ⟨k, hk, rfl, A4, c4', rfl, HH⟩ := hrel
    by_cases hlt : k < n
    · have hlt' : (k : Int) < n := by omega
      have hw : IntKind.i64.wrap ((k : Int) + 1) = (k : Int) + 1 := IntWalk.i64_in _ (by omega)
      have hfl := fullB_length n k
      have hbl : (fullB n k).length ≤ 100000 := by omega
      have HB := Lib.hid (fullB_ok n k)
      clear hfl
      go_wp2_with fail
      refine (bset_calls A4 c4' (fullB n k) HB.out hbl k (by omega) wr (SliceR.of_own HH.out.2.2)).mono ?_
      rintro e w5 ⟨A5, c5', rfl, hg, hob⟩
      have HH5 : Hid (SAt g p d Fq G w5 ∧ Keep (SF g p.rt Fq) w w5 ∧ w5.ownsRow w.heap.size 5 1 (.slice A5 (fullB n (k + 1)).length c5') (fullB n (k + 1)).length (u8s (fullB n (k + 1)))) :=
        Lib.hid ⟨HH.out.1.grow hg, HH.out.2.1.grow hg, own_le hob HH.out.2.1.size⟩
      clear hg hob
      go_wp2
      go_roundw
      case rel => exact ⟨k + 1, by omega, by go_num, A5, c5', rfl, HH5⟩
      case measure => simp [intOf]; omega
    · obtain rfl : k = n := by omega
      have hlt' : ¬ ((k : Int) < k) := by omega
      have hfl := fullB_length k k
      have HB := Lib.hid (fullB_ok k k)
      have HFL : Hid ((fullB k k).length = (d.tries.length + 7) / 8) := Lib.hid (by rw [HN.out]; exact hfl)
      have HGA : Hid (∀ j, (Value.slice A4 (fullB k k).length c4').ownBlock = some j → ¬ SF g p.rt Fq j) := Lib.hid (fun j hj hS => by
        have h1 := (HH.out.2.2.lt j hj).1
        have h2 := HGL.out j hS
        omega)
      have HFT := Lib.hid (Foot.of_own HH.out.2.2)
      clear hfl
      go_wp2_with fail
      refine (known_calls HH.out.1 (fullB k k) HB.out HFL.out A4 c4' HFT.out HGA.out).mono ?_
      rintro e w5 ⟨⟨v5, rfl⟩, hS, hK⟩
      have HS := Lib.hid hS
      have HK := Lib.hid (HH.out.2.1.trans hK (fun _ h => .inl h))
      clear hS hK
      go_wp2_with fail
      refine (end_calls HS.out 2 0 (by omega) (by omega)).mono ?_
      rintro e w6 ⟨⟨v6, rfl⟩, q6, F6, hS, hK, hF⟩
      have hsz5 := HK.out.size
      have HF : Hid (∀ j, F6 j → w.heap.size ≤ j) := Lib.hid (fun j hj => Nat.le_trans hsz5 (hF j hj))
      have HL6 := Lib.hid hS.lt
      replace HK := Lib.hid (HK.out.trans hK (fun _ h => .inl h))
      obtain ⟨d6, hd6⟩ : ∃ d6, finD d = d6 := ⟨_, rfl⟩
      have hS2 : SAt g { q := q6, rt := p.rt, As := p.As, Ac := p.Ac, Aa := A4, cs := p.cs, cc := p.cc, ca := c4', ct := p.ct } d6 F6 (fun j => G j ∨ (Value.slice A4 (fullB k k).length c4').ownBlock = some j) w6 := by
        rw [← hd6]
        have h9 := HN.out
        unfold finD
        rw [h9] at hS ⊢
        exact hS
      have he6 : d6.session = d.session ∧ d6.sum = d.sum := by
        rw [← hd6]
        have := knD_st (fullB d.tries.length d.tries.length) d.acked (ackD d (fullB d.tries.length d.tries.length)) d.tries.length
        exact ⟨this.1, this.2.1⟩
      replace HS := Lib.hid hS2
      have HE6 := Lib.hid he6
      clear hS hS2 hK hF he6 hsz5
      go_wp2_with fail
      refine (gram_calls HS.out 7).mono ?_
      rintro e w7 ⟨rfl, hg⟩
      rw [HE6.out.1, HE6.out.2]
      have hga := (Keep.refl NoB w7).alloc (.cells #[.int .i64 7, .int .u64 d.session, .int .i64 0, .int .i64 0, .int .u32 (d.sum : Nat), .slice none 0 0, .slice none 0 0] 46)
      have HO := Lib.hid (heap_alloc_new w7 (.cells #[.int .i64 7, .int .u64 d.session, .int .i64 0, .int .i64 0, .int .u32 (d.sum : Nat), .slice none 0 0, .slice none 0 0] 46))
      replace HS := Lib.hid ((HS.out.grow hg).grow hga)
      have hsz7 := (HK.out.grow hg).size
      have hnb : ¬ F6 w7.heap.size := fun hj => by have h1 := HL6.out _ hj; have h2 := hg.size; omega
      have HNB := Lib.hid hnb
      replace HK := Lib.hid ((HK.out.grow hg).grow hga)
      clear hg hga hnb
      go_wp2
      go_ret
      rw [hd6]
      exact ⟨w7.heap.size, _, F6, _, rfl, HO.out, HS.out, HK.out, rfl, HF.out, hsz7, HNB.out, fun j hj => hj.elim .inl (fun h => .inr (HH.out.2.2.lt j h).1)⟩
end Go.Proofs.YtfkcpaahdlkcdaaGreat
set_option linter.unusedSimpArgs false
set_option linter.unusedVariables false
namespace Go.Proofs.YtfkcpaahdlkcdaaGreat
open Go.RowKit

/-- Behind an end. -/
def endD (d : Snd) (ph er : Int) : Snd := { d with phase := ph, err := er, tm := [] }
theorem SAt.small {g : Nat} {p : SP} {d : Snd} {Fq G : Nat → Prop} {w : World} (h : SAt g p d Fq G w) : ∀ k, SF g p.rt Fq k → k < w.heap.size := fun k hk => by
  rcases hk with e | e | e
  · rw [e]; exact h.gq
  · rw [e]; exact h.rlt
  · exact h.lt k e
set_option maxRecDepth 100000 in
set_option maxHeartbeats 2000000 in
theorem abort_calls {g : Nat} {p : SP} {d : Snd} {Fq G : Nat → Prop} {w : World} (h : SAt g p d Fq G w) (kind session index of sum : Int) (A1 A2 : Option Addr) (n1 c1' n2 c2' : Nat) :
    Calls Tryz.prog 164 #[.pointer (some ⟨g, 0, none⟩), .agg #[.int .i64 kind, .int .u64 session, .int .i64 index, .int .i64 of, .int .u32 sum, .slice A1 n1 c1', .slice A2 n2 c2']] w fun e w' =>
      ∃ q Fq', e = .returned (.slice none 0 0) ∧ SAt g { p with q := q } (endD d 3 34) Fq' G w' ∧ Keep (SF g p.rt Fq) w w' ∧ (∀ k, Fq' k → w.heap.size ≤ k) := by
  have hd0 := (Keep.refl NoB w).alloc (.cells #[.int .i64 kind, .int .u64 session, .int .i64 index, .int .i64 of, .int .u32 sum, .slice A1 n1 c1', .slice A2 n2 c2'] 46)
  have HG := Lib.hid hd0
  have H := Lib.hid (h.grow hd0)
  clear h hd0
  go_enter Tryz.func164, Tryz.ntmps164
  go_wp2_with fail
  refine (end_calls H.out 3 34 (by omega) (by omega)).mono ?_
  rintro e w6 ⟨⟨v6, rfl⟩, q6, F6, hS, hK, hF⟩
  have HS := Lib.hid hS
  have hsz := HG.out.size
  have HK := Lib.hid ((HG.out.mono (fun _ h => h.elim)).trans hK (fun _ h => .inl h))
  have HF : Hid (∀ j, F6 j → w.heap.size ≤ j) := Lib.hid (fun j hj => Nat.le_trans hsz (hF j hj))
  clear hS hK hF hsz
  go_wp2
  go_ret
  exact ⟨q6, F6, rfl, HS.out, HK.out, HF.out⟩

set_option maxRecDepth 100000 in
set_option maxHeartbeats 2000000 in
theorem cancel_no {g : Nat} {p : SP} {d : Snd} {Fq G : Nat → Prop} {w : World} (h : SAt g p d Fq G w) (hp : d.phase ≠ 1) :
    Calls Tryz.prog 33 #[.pointer (some ⟨g, 0, none⟩)] w fun e w' => e = .returned (.slice none 0 0) ∧ w = w' := by
  obtain ⟨c0, c1, c2, c3, c4, c5, c6, c7, c8, c9, c10, c11, c12, c13, c14, cf⟩ := cells15 h.cell
  have hp1 : (d.phase == 1) = false := by simpa using hp
  clear h
  go_enter Tryz.func33, Tryz.ntmps33
  go_wp2
  go_ret
  exact ⟨rfl, rfl⟩
set_option maxRecDepth 100000 in
set_option maxHeartbeats 2000000 in
theorem cancel_yes {g : Nat} {p : SP} {d : Snd} {Fq G : Nat → Prop} {w : World} (h : SAt g p d Fq G w) (hp : d.phase = 1) :
    Calls Tryz.prog 33 #[.pointer (some ⟨g, 0, none⟩)] w fun e w' =>
      ∃ b q Fq', e = .returned (.slice (some ⟨b, 0, none⟩) 1 1) ∧ OneG w' b 8 d.session 0 0 d.sum ∧ SAt g { p with q := q } (endD d 3 34) Fq' G w' ∧ Keep (SF g p.rt Fq) w w' ∧ (∀ k, Fq' k → w.heap.size ≤ k) ∧ w.heap.size ≤ b ∧ ¬ Fq' b := by
  obtain ⟨c0, c1, c2, c3, c4, c5, c6, c7, c8, c9, c10, c11, c12, c13, c14, cf⟩ := cells15 h.cell
  rw [hp] at c10
  have H := Lib.hid h
  clear h hp
  go_enter Tryz.func33, Tryz.ntmps33
  go_wp2_with fail
  refine (end_calls H.out 3 34 (by omega) (by omega)).mono ?_
  rintro e w6 ⟨⟨v6, rfl⟩, q6, F6, hS, hK, hF⟩
  have HS : Hid (SAt g { p with q := q6 } (endD d 3 34) F6 G w6) := Lib.hid hS
  have HL6 := Lib.hid hS.lt
  have HK := Lib.hid hK
  have HF := Lib.hid hF
  clear hS hK hF c0 c1 c2 c3 c4 c5 c6 c7 c8 c9 c10 c11 c12 c13 c14 cf
  go_wp2_with fail
  refine (gram_calls HS.out 8).mono ?_
  rintro e w7 ⟨rfl, hg⟩
  have hE : (endD d 3 34).session = d.session ∧ (endD d 3 34).sum = d.sum := ⟨rfl, rfl⟩
  rw [hE.1, hE.2]
  clear hE
  have hga := (Keep.refl NoB w7).alloc (.cells #[.int .i64 8, .int .u64 d.session, .int .i64 0, .int .i64 0, .int .u32 (d.sum : Nat), .slice none 0 0, .slice none 0 0] 46)
  have HO := Lib.hid (heap_alloc_new w7 (.cells #[.int .i64 8, .int .u64 d.session, .int .i64 0, .int .i64 0, .int .u32 (d.sum : Nat), .slice none 0 0, .slice none 0 0] 46))
  replace HS := Lib.hid ((HS.out.grow hg).grow hga)
  have hsz7 := (HK.out.grow hg).size
  have hnb : ¬ F6 w7.heap.size := fun hj => by have h1 := HL6.out _ hj; have h2 := hg.size; omega
  have HNB := Lib.hid hnb
  replace HK := Lib.hid ((HK.out.grow hg).grow hga)
  clear hg hga hnb
  go_wp2
  go_ret
  exact ⟨w7.heap.size, q6, F6, rfl, HO.out, HS.out, HK.out, HF.out, hsz7, HNB.out⟩
end Go.Proofs.YtfkcpaahdlkcdaaGreat
set_option linter.unusedSimpArgs false
set_option linter.unusedVariables false
namespace Go.Proofs.YtfkcpaahdlkcdaaGreat
open Go.RowKit

theorem cells4 {w : World} {g T : Nat} {a0 a1 a2 a3 : Value} (h : w.heap[g]? = some (.cells #[a0, a1, a2, a3] T (0, 0))) : w.cell? ⟨g, 0, none⟩ = some a0 ∧ w.cell? ⟨g, 1, none⟩ = some a1 ∧ w.cell? ⟨g, 2, none⟩ = some a2 ∧ w.cell? ⟨g, 3, none⟩ = some a3 ∧ ∀ o, w.frozen? ⟨g, o, none⟩ = false :=
  ⟨World.news_of_block h 0 _ rfl, World.news_of_block h 1 _ rfl, World.news_of_block h 2 _ rfl, World.news_of_block h 3 _ rfl, fun o => frozen0 o h⟩
theorem stored4 {w0 w : World} {g T : Nat} {a0 a1 a2 a3 : Value} (n0 n1 n2 n3 : Value) (hg : Grow w0 w) (hge : w0.heap.size ≤ g) (h : w.heap[g]? = some (.cells #[a0, a1, a2, a3] T (0, 0))) :
    ((((w.setCell ⟨g, 0, none⟩ n0).setCell ⟨g, 1, none⟩ n1).setCell ⟨g, 2, none⟩ n2).setCell ⟨g, 3, none⟩ n3).heap[g]? = some (.cells #[n0, n1, n2, n3] T (0, 0)) ∧ Grow w0 ((((w.setCell ⟨g, 0, none⟩ n0).setCell ⟨g, 1, none⟩ n1).setCell ⟨g, 2, none⟩ n2).setCell ⟨g, 3, none⟩ n3) := by
  refine ⟨?_, ((((hg.setCell (p := ⟨g, 0, none⟩) (.inr hge) _).setCell (p := ⟨g, 1, none⟩) (.inr hge) _).setCell (p := ⟨g, 2, none⟩) (.inr hge) _).setCell (p := ⟨g, 3, none⟩) (.inr hge) _)⟩
  simp only [World.setCell, Array.getElem?_modify]
  simp [h]
/-- So many chunks are acked. -/
def cntB (b : List Int) (p : Nat) : Nat → Nat
  | 0 => 0
  | k + 1 => cntB b p k + (if getB b (p + k) = true then 1 else 0)
theorem cntB_le (b : List Int) (p : Nat) : ∀ k, cntB b p k ≤ k
  | 0 => Nat.le_refl _
  | k + 1 => by
    have := cntB_le b p k
    unfold cntB
    split <;> omega
set_option maxRecDepth 100000 in
set_option maxHeartbeats 4000000 in
theorem status_calls {g : Nat} {p : SP} {d : Snd} {Fq G : Nat → Prop} {w : World} (h : SAt g p d Fq G w) :
    Calls Tryz.prog 20 #[.pointer (some ⟨g, 0, none⟩)] w fun e w' => e = .returned (.agg #[.int .i64 d.phase, .int .u16 d.err, .int .i64 (cntB d.acked (pagesN d.sz) d.ch.length : Nat), .int .i64 d.ch.length]) ∧ Grow w w' := by
  have hn := h.ok.n
  have hd0 := (Keep.refl NoB w).alloc (.cells #[.int .i64 0, .int .u16 0, .int .i64 0, .int .i64 0] 48)
  have HG := Lib.hid hd0
  have HC := Lib.hid (heap_alloc_new w (.cells #[.int .i64 0, .int .u16 0, .int .i64 0, .int .i64 0] 48))
  have H := Lib.hid (h.grow hd0)
  clear h hd0
  go_enter Tryz.func20, Tryz.ntmps20
  have c5 := (cells15 H.out.cell).2.2.2.2.2.1
  go_wp2
  clear c5
  generalize w.alloc (.cells #[.int .i64 0, .int .u16 0, .int .i64 0, .int .i64 0] 48) = w1 at HG H HC ⊢
  obtain ⟨n, hn9⟩ : ∃ n, d.ch.length = n := ⟨_, rfl⟩
  obtain ⟨pp, hp9⟩ : ∃ pp, pagesN d.sz = pp := ⟨_, rfl⟩
  have HN := Lib.hid hn9
  have HP := Lib.hid hp9
  rw [hn9, hp9] at hn
  rw [hn9]
  clear hn9 hp9
  go_loopw [3, 13] (fun s v wr => ∃ k : Nat, k ≤ n ∧ v = .int .i64 k ∧ s = .int .i64 (cntB d.acked pp k : Nat) ∧ Hid (Grow w wr ∧ SAt g p d Fq G wr ∧ wr.heap[w.heap.size]? = some (.cells #[.int .i64 0, .int .u16 0, .int .i64 0, .int .i64 0] 48 (0, 0)))) (fun s v _ => n - (intOf v).toNat)
  case atStart => exact ⟨0, by omega, rfl, rfl, HG.out, H.out, HC.out⟩
  case round =>
    clear HG H HC
    obtain ⟨k, hk, rfl, rfl, HH⟩ := hrel
    obtain ⟨c0, c1, c2, c3, c4, c5, c6, c7, c8, c9, c10, c11, c12, c13, c14, cf⟩ := cells15 HH.out.2.1.cell
    rw [HP.out] at c4
    rw [HN.out] at c5
    have hcl := cntB_le d.acked pp k
    by_cases hlt : k < n
    · have hlt' : (k : Int) < n := by omega
      have hw : IntKind.i64.wrap ((k : Int) + 1) = (k : Int) + 1 := IntWalk.i64_in _ (by omega)
      have hwc : IntKind.i64.wrap ((cntB d.acked pp k : Nat) + 1 : Int) = (cntB d.acked pp k : Nat) + 1 := IntWalk.i64_in _ (by omega)
      have hwp : IntKind.i64.wrap ((pp : Int) + k) = (pp : Int) + k := IntWalk.i64_in _ (by omega)
      have HB := Lib.hid HH.out.2.1.ok.acked
      have HR := Lib.hid (HH.out.2.1.grow (Keep.refl NoB wr).drew).ro.now.2.2
      go_wp2
      refine region_ord [0, 1, 2, 3, 4, 5, 6, 7, 8, 9, 10] [10] [3, 7] [] rfl (by kernel_rfl) ?_
      iterate 3
        refine ord_pure rfl rfl rfl rfl rfl (fun _ _ _ _ h => h) ?_ ?_ ?_ ?_ ?_
        rotate_left 2
        · intro w'; go_simp; with_reducible rfl
        · simp only [Act.put, List.setIfInBounds_toArray, List.set_cons_zero, List.set_cons_succ]; rfl
      refine ord_read rfl rfl rfl rfl rfl (fun _ _ _ _ h => h) ?_ ?_ ?_ ?_ ?_
      rotate_left 2
      · intro w' hg; have q := hg.cell c12 (fun h => h); go_simp; with_reducible rfl
      · simp only [Act.put, List.setIfInBounds_toArray, List.set_cons_zero, List.set_cons_succ]; rfl
      iterate 3
        refine ord_pure rfl rfl rfl rfl rfl (fun _ _ _ _ h => h) ?_ ?_ ?_ ?_ ?_
        rotate_left 2
        · intro w'; go_simp; with_reducible rfl
        · simp only [Act.put, List.setIfInBounds_toArray, List.set_cons_zero, List.set_cons_succ]; rfl
      refine ord_read rfl rfl rfl rfl rfl (fun _ _ _ _ h => h) ?_ ?_ ?_ ?_ ?_
      rotate_left 2
      · intro w' hg; have q := hg.cell c4 (fun h => h); go_simp; with_reducible rfl
      · simp only [Act.put, List.setIfInBounds_toArray, List.set_cons_zero, List.set_cons_succ]; rfl
      iterate 2
        refine ord_pure rfl rfl rfl rfl rfl (fun _ _ _ _ h => h) ?_ ?_ ?_ ?_ ?_
        rotate_left 2
        · intro w'; go_simp; with_reducible rfl
        · simp only [Act.put, List.setIfInBounds_toArray, List.set_cons_zero, List.set_cons_succ]; rfl
      refine ord_call rfl rfl rfl rfl rfl Tryz.func82 rfl rfl [.slice p.Aa d.acked.length p.ca, .int .i64 ((pp : Int) + k)] rfl ?_
      have hpk : ((pp : Int) + k) = ((pp + k : Nat) : Int) := by push_cast; rfl
      rw [hpk]
      refine (bget_calls p.Aa p.ca d.acked HB.out (pp + k) (by omega) wr.drew HR.out).mono ?_
      rintro e w2 ⟨rfl, rfl⟩
      refine ⟨_, rfl, fun _ => Keep.refl _ _, ?_⟩
      simp only [Act.put, List.setIfInBounds_toArray, List.set_cons_zero, List.set_cons_succ]
      refine ord_nil ?_
      have HH3 : Hid (Grow w wr.drew ∧ SAt g p d Fq G wr.drew ∧ wr.drew.heap[w.heap.size]? = some (.cells #[.int .i64 0, .int .u16 0, .int .i64 0, .int .i64 0] 48 (0, 0))) := Lib.hid ⟨HH.out.1.drew, HH.out.2.1.grow (Keep.refl NoB wr).drew, HH.out.2.2⟩
      generalize wr.drew = w3 at HH3 ⊢
      clear HH c0 c1 c2 c3 c4 c5 c6 c7 c8 c9 c10 c11 c12 c13 c14 cf HR
      rcases hb : getB d.acked (pp + k) with _ | _
      · have hs : cntB d.acked pp (k + 1) = cntB d.acked pp k := by simp [cntB, hb]
        go_wp2
        go_roundw
        case rel => exact ⟨k + 1, by omega, by go_num, by rw [hs], HH3⟩
        case measure => simp [intOf]; omega
      · have hs : cntB d.acked pp (k + 1) = cntB d.acked pp k + 1 := by simp [cntB, hb]
        go_wp2
        go_roundw
        case rel => exact ⟨k + 1, by omega, by go_num, by rw [hs]; go_num, HH3⟩
        case measure => simp [intOf]; omega
    · obtain rfl : k = n := by omega
      have hlt' : ¬ ((k : Int) < k) := by omega
      go_wp2
      obtain ⟨z0, z1, z2, z3, zf⟩ := cells4 HH.out.2.2
      refine region_ord [0, 1, 2, 3, 4, 5, 6, 7, 8, 9, 10, 11, 12, 13, 14, 15] [15] [3, 7, 12] [15] rfl (by kernel_rfl) ?_
      iterate 3
        refine ord_pure rfl rfl rfl rfl rfl (fun _ _ _ _ h => h) ?_ ?_ ?_ ?_ ?_
        rotate_left 2
        · intro w'; go_simp; with_reducible rfl
        · simp only [Act.put, List.setIfInBounds_toArray, List.set_cons_zero, List.set_cons_succ]; rfl
      refine ord_read rfl rfl rfl rfl rfl (fun _ _ _ _ h => h) ?_ ?_ ?_ ?_ ?_
      rotate_left 2
      · intro w' hg; have q := hg.cell c10 (fun h => h); go_simp; with_reducible rfl
      · simp only [Act.put, List.setIfInBounds_toArray, List.set_cons_zero, List.set_cons_succ]; rfl
      iterate 3
        refine ord_pure rfl rfl rfl rfl rfl (fun _ _ _ _ h => h) ?_ ?_ ?_ ?_ ?_
        rotate_left 2
        · intro w'; go_simp; with_reducible rfl
        · simp only [Act.put, List.setIfInBounds_toArray, List.set_cons_zero, List.set_cons_succ]; rfl
      refine ord_read rfl rfl rfl rfl rfl (fun _ _ _ _ h => h) ?_ ?_ ?_ ?_ ?_
      rotate_left 2
      · intro w' hg; have q := hg.cell c11 (fun h => h); go_simp; with_reducible rfl
      · simp only [Act.put, List.setIfInBounds_toArray, List.set_cons_zero, List.set_cons_succ]; rfl
      iterate 4
        refine ord_pure rfl rfl rfl rfl rfl (fun _ _ _ _ h => h) ?_ ?_ ?_ ?_ ?_
        rotate_left 2
        · intro w'; go_simp; with_reducible rfl
        · simp only [Act.put, List.setIfInBounds_toArray, List.set_cons_zero, List.set_cons_succ]; rfl
      refine ord_read rfl rfl rfl rfl rfl (fun _ _ _ _ h => h) ?_ ?_ ?_ ?_ ?_
      rotate_left 2
      · intro w' hg; have q := hg.cell c5 (fun h => h); go_simp; with_reducible rfl
      · simp only [Act.put, List.setIfInBounds_toArray, List.set_cons_zero, List.set_cons_succ]; rfl
      iterate 2
        refine ord_pure rfl rfl rfl rfl rfl (fun _ _ _ _ h => h) ?_ ?_ ?_ ?_ ?_
        rotate_left 2
        · intro w'; go_simp; with_reducible rfl
        · simp only [Act.put, List.setIfInBounds_toArray, List.set_cons_zero, List.set_cons_succ]; rfl
      refine ord_put rfl rfl rfl rfl ?_ ?_ (fun h => absurd (by simp) h) ?_
      rotate_left
      · go_simp; with_reducible rfl
      refine ord_nil ?_
      have HS := Lib.hid (stored4 (.int .i64 d.phase) (.int .u16 d.err) (.int .i64 (cntB d.acked pp k : Nat)) (.int .i64 k) HH.out.1 (Nat.le_refl _) HH.out.2.2)
      obtain ⟨W2, hW2⟩ : ∃ W2, ((((wr.setCell ⟨w.heap.size, 0, none⟩ (.int .i64 d.phase)).setCell ⟨w.heap.size, 1, none⟩ (.int .u16 d.err)).setCell ⟨w.heap.size, 2, none⟩ (.int .i64 (cntB d.acked pp k : Nat))).setCell ⟨w.heap.size, 3, none⟩ (.int .i64 k)) = W2 := ⟨_, rfl⟩
      rw [hW2] at HS ⊢
      clear hW2 c0 c1 c2 c3 c4 c5 c6 c7 c8 c9 c10 c11 c12 c13 c14 cf z0 z1 z2 z3 zf
      obtain ⟨z0, z1, z2, z3, zf⟩ := cells4 HS.out.1
      go_wp2
      rw [HP.out]
      refine bodyPost_ret (v := .agg #[.int .i64 d.phase, .int .u16 d.err, .int .i64 (cntB d.acked pp k : Nat), .int .i64 k]) ?_ rfl ⟨by rw [HN.out], HS.out.2.drew⟩
      rw [results_cell1 rfl]; go_simp

set_option maxRecDepth 100000 in
set_option maxHeartbeats 4000000 in
theorem tick_no {g : Nat} {p : SP} {d : Snd} {Fq G : Nat → Prop} {w : World} (h : SAt g p d Fq G w) (hp : d.phase ≠ 1) (now : Int) :
    Calls Tryz.prog 19 #[.pointer (some ⟨g, 0, none⟩), .int .i64 now] w fun e w' => e = .returned (.slice none 0 0) ∧ w = w' := by
  obtain ⟨c0, c1, c2, c3, c4, c5, c6, c7, c8, c9, c10, c11, c12, c13, c14, cf⟩ := cells15 h.cell
  have hp1 : (d.phase == 1) = false := by simpa using hp
  clear h
  go_enter Tryz.func19, Tryz.ntmps19
  go_wp2
  go_ret
  exact ⟨rfl, rfl⟩
end Go.Proofs.YtfkcpaahdlkcdaaGreat
set_option linter.unusedSimpArgs false
set_option linter.unusedVariables false
namespace Go.Proofs.YtfkcpaahdlkcdaaGreat
open Go.RowKit

set_option maxRecDepth 100000 in
set_option maxHeartbeats 4000000 in
theorem manifest_calls {g : Nat} {p : SP} {d : Snd} {Fq G : Nat → Prop} {w : World} (h : SAt g p d Fq G w) :
    Calls Tryz.prog 32 #[.pointer (some ⟨g, 0, none⟩)] w fun e w' => ∃ A c, e = .returned (.agg #[.int .u64 d.session, .slice A d.sz.length c, .int .u32 (d.sum : Nat)]) ∧ Grow w w' ∧ w'.ownsRow w.heap.size 3 1 (.slice A d.sz.length c) d.sz.length (ints d.sz) := by
  obtain ⟨hl1, hl2, hl3, hl4⟩ := fits_parts h.ok.fit
  clear hl3
  have hd0 := (Keep.refl NoB w).alloc (.cells #[.int .u64 0, .slice none 0 0, .int .u32 0] 40)
  have hc0 := heap_alloc_new w (.cells #[.int .u64 0, .slice none 0 0, .int .u32 0] 40)
  have H := Lib.hid (h.grow hd0)
  have hcc := cells15 H.out.cell
  have c1 := hcc.2.1
  have c2 := hcc.2.2.1
  have c3 := hcc.2.2.2.1
  have hd1 := (Keep.refl NoB (w.alloc (.cells #[.int .u64 0, .slice none 0 0, .int .u32 0] 40))).alloc (.cells #[.int .u64 d.session, .slice p.As d.sz.length p.cs, .int .u32 (d.sum : Nat)] 40)
  have HC1 := Lib.hid (heap_alloc_new (w.alloc (.cells #[.int .u64 0, .slice none 0 0, .int .u32 0] 40)) (.cells #[.int .u64 d.session, .slice p.As d.sz.length p.cs, .int .u32 (d.sum : Nat)] 40))
  have HC0 := Lib.hid (Grow.heap hd1 hc0)
  have HG := Lib.hid (hd0.grow hd1)
  have HS := Lib.hid (H.out.grow hd1).ro.now.1
  have hcs := cells3 HC1.out
  have m1 := hcs.2.1
  simp only [World.size_alloc] at HC1 hcs m1
  clear h hd0 hd1 hc0 hcc hcs H
  go_enter Tryz.func32, Tryz.ntmps32
  go_wp2_with (at_builtin; refine wpList_app _ rfl _ _ 37 37 rfl w.heap.size 3 (.int .i64 0) 1 8 u_ints info_int rfl (.slice none 0 0) 0 [] rfl (.slice p.As d.sz.length p.cs) d.sz.length (ints d.sz) rfl ?_ (World.ownsRow_nil _ _ _ _) (HS.out.src u_ints (ints_one _)) (by simp only [maxLen]; omega) (by omega) (by simp; omega); intro v5 w5 hap; refine Hid.out ?_)
  refine Lib.hid ?_
  have hgr := (Keep.refl NoB ((w.alloc (.cells #[.int .u64 0, .slice none 0 0, .int .u32 0] 40)).alloc (.cells #[.int .u64 d.session, .slice p.As d.sz.length p.cs, .int .u32 (d.sum : Nat)] 40))).grown hap.grew (by simp [Value.ownBlock])
  have hob := hap.own
  simp only [Nat.zero_add, List.nil_append] at hob
  have hat := hap.at_
  replace HC0 := Lib.hid (Grow.heap hgr HC0.out)
  replace HC1 := Lib.hid (Grow.heap hgr HC1.out)
  replace HG := Lib.hid (HG.out.grow hgr)
  obtain ⟨A5, c5, rfl, _⟩ := own_slice hob
  have hnb : ∀ k, (Value.slice A5 d.sz.length c5).ownBlock = some k → w.heap.size + 2 ≤ k := fun k hk => by
    rcases hat with e | e
    · rw [hk] at e; simp [Value.ownBlock] at e
    · rw [hk] at e; simp at e; omega
  have HNB := Lib.hid hnb
  have HOB := Lib.hid hob
  clear hap hgr hob hat hnb c1 c2 c3 m1 HS
  obtain ⟨m0, m1, m2, mf⟩ := cells3 HC1.out
  obtain ⟨r0, r1, r2, rf⟩ := cells3 HC0.out
  have hS1 := HG.out.setCell (p := ⟨w.heap.size + 1, 1, none⟩) (.inr (by simp)) (.slice A5 d.sz.length c5)
  have hC1 : (w5.setCell ⟨w.heap.size + 1, 1, none⟩ (.slice A5 d.sz.length c5)).heap[w.heap.size + 1]? = some (.cells #[.int .u64 d.session, .slice A5 d.sz.length c5, .int .u32 (d.sum : Nat)] 40 (0, 0)) := heap_setCell31 _ HC1.out
  have hC0 : (w5.setCell ⟨w.heap.size + 1, 1, none⟩ (.slice A5 d.sz.length c5)).heap[w.heap.size]? = some (.cells #[.int .u64 0, .slice none 0 0, .int .u32 0] 40 (0, 0)) := (setCell_ne (p := ⟨w.heap.size + 1, 1, none⟩) _ (by simp)).trans HC0.out
  have hob6 := own_keep HOB.out ((Keep.refl (fun k => k = w.heap.size + 1) w5).setCell (p := ⟨w.heap.size + 1, 1, none⟩) (.inl rfl) (.slice A5 d.sz.length c5)) (fun k hk e => by have := HNB.out k hk; omega)
  have HS := Lib.hid (stored3 (.int .u64 d.session) (.slice A5 d.sz.length c5) (.int .u32 (d.sum : Nat)) hS1 (Nat.le_refl _) hC0)
  have HO6 := Lib.hid (own_keep hob6 ((((Keep.refl (fun k => k = w.heap.size) (w5.setCell ⟨w.heap.size + 1, 1, none⟩ (.slice A5 d.sz.length c5))).setCell (p := ⟨w.heap.size, 0, none⟩) (.inl rfl) (.int .u64 d.session)).setCell (p := ⟨w.heap.size, 1, none⟩) (.inl rfl) (.slice A5 d.sz.length c5)).setCell (p := ⟨w.heap.size, 2, none⟩) (.inl rfl) (.int .u32 (d.sum : Nat))) (fun k hk e => by have := HNB.out k hk; omega))
  clear hob6
  obtain ⟨n0, n1, n2, nf⟩ := cells3 hC1
  obtain ⟨t0, t1, t2, tf⟩ := cells3 hC0
  clear hS1 hC0 hC1
  go_wp2
  obtain ⟨s0, s1, s2, sf⟩ := cells3 HS.out.1
  refine bodyPost_ret (v := .agg #[.int .u64 d.session, .slice A5 d.sz.length c5, .int .u32 (d.sum : Nat)]) ?_ rfl ⟨A5, c5, rfl, HS.out.2, HO6.out⟩
  rw [results_cell1 rfl]; go_simp
end Go.Proofs.YtfkcpaahdlkcdaaGreat
set_option linter.unusedSimpArgs false
set_option linter.unusedVariables false
namespace Go.Proofs.YtfkcpaahdlkcdaaGreat
open Go.RowKit

/-- Behind Set. -/
def setD (d : Snd) (key : Nat) (at_ : Int) : Snd := { d with tm := rSet d.tm key at_ }
theorem mem_rSet {l : List KT} {key at_ : Int} {x : KT} (h : x ∈ rSet l key at_) : x ∈ l ∨ x = (key, at_) := by
  unfold rSet at h
  split at h
  · rcases mem_setL.1 h with h | h
    · exact .inl h.1
    · exact .inr h
  · exact .inl h
theorem OkS.set {d : Snd} (h : OkS d) (key : Nat) (hk : key < d.tries.length) (at_ : Int) : OkS (setD d key at_) :=
  ⟨h.s0, h.s1, h.sum, h.fit, h.ch, h.chl, h.conf, h.phase, h.err, h.acked, h.alen, h.tlen, h.tr, fun x hx => by
    rcases mem_rSet hx with hx | rfl
    · exact h.tm x hx
    · show 0 ≤ (key : Int) ∧ (key : Int) < (d.tries.length : Nat)
      omega⟩
/-- How a footprint may grow. -/
def Grew (Fq Fq' : Nat → Prop) (w : World) : Prop := ∀ k, Fq' k → Fq k ∨ w.heap.size ≤ k
theorem keep_sf {g rt : Nat} {Fq Fq' : Nat → Prop} {w w1 w2 : World} (h : Keep (SF g rt Fq) w w1) (hF : Grew Fq Fq' w) (k : Keep (SF g rt Fq') w1 w2) : Keep (SF g rt Fq) w w2 :=
  h.trans k (fun i hi => by
    rcases hi with e | e | e
    · exact .inl (.inl e)
    · exact .inl (.inr (.inl e))
    · rcases hF i e with e | e
      · exact .inl (.inr (.inr e))
      · exact .inr e)
theorem Grew.trans {Fq Fq' Fq'' : Nat → Prop} {w w1 : World} (h : Grew Fq Fq' w) (k : Grew Fq' Fq'' w1) (hw : w.heap.size ≤ w1.heap.size) : Grew Fq Fq'' w := fun i hi => by
  rcases k i hi with e | e
  · exact h i e
  · exact .inr (Nat.le_trans hw e)
theorem Grew.refl (Fq : Nat → Prop) (w : World) : Grew Fq Fq w := fun _ h => .inl h
/-- A queue with new timers takes the old one's place. -/
theorem SAt.queue {g : Nat} {p : SP} {d : Snd} {Fq G : Nat → Prop} {w w' : World} (h : SAt g p d Fq G w) {tm : List KT} {F2 : Nat → Prop} (hQ : Que p.q tm F2 w') (hK : Keep Fq w w') (hF : Grew Fq F2 w) (hok : OkS { d with tm := tm }) :
    ∃ Fq', SAt g p { d with tm := tm } Fq' G w' ∧ Keep (SF g p.rt Fq) w w' ∧ Grew Fq Fq' w := by
  obtain ⟨d1, d2, d3, d4, d5, d6⟩ := h.dis
  obtain ⟨F3, h1, h2, h3⟩ := hQ.tight
  have hF3 : Grew Fq F3 w := fun k hk => hF k (h2 k hk)
  refine ⟨F3, ⟨(hK.block g h.gq d2).trans h.cell, h1, own_keep h.tri hK (fun k hk => by cases hk; exact d3), h.ro.keep hK (fun k hk e => d6 k e hk), ⟨d1, fun e => ?_, fun e => ?_, d4, d5, fun k hk e => ?_⟩, h3, hok⟩, hK.mono (fun k e => .inr (.inr e)), hF3⟩
  · rcases hF3 g e with e | e
    · exact d2 e
    · have := h.gq; omega
  · rcases hF3 p.rt e with e | e
    · exact d3 e
    · have := h.rlt; omega
  · rcases hF3 k hk with e2 | e2
    · exact d6 k e2 e
    · have := h.ro.lt e; omega
theorem sset_calls {g : Nat} {p : SP} {d : Snd} {Fq G : Nat → Prop} {w : World} (h : SAt g p d Fq G w) (key : Nat) (hk : key < d.tries.length) (at_ : Int) :
    Calls Tryz.prog 80 #[.pointer (some ⟨p.q, 0, none⟩), .int .i64 key, .int .i64 at_] w fun e w' => (∃ v, e = .returned v) ∧ ∃ Fq', SAt g p (setD d key at_) Fq' G w' ∧ Keep (SF g p.rt Fq) w w' ∧ Grew Fq Fq' w := by
  have hn := h.ok.n
  refine (tset_calls h.que key (okI_nat (by omega)) at_).mono ?_
  rintro e w' ⟨rfl, F2, hQ, hK, hF⟩
  exact ⟨⟨_, rfl⟩, h.queue hQ hK hF (h.ok.set key hk at_)⟩

/-- Behind ask: k keys from one on. -/
def askD (now : Int) (frm : Nat) : Nat → Snd → Snd
  | 0, d => d
  | k + 1, d => if hasL (askD now frm k d).tm ((frm + k : Nat) : Int) = false ∧ getB d.acked (frm + k) = false then setD (askD now frm k d) (frm + k) now else askD now frm k d
theorem askD_st (now : Int) (frm : Nat) (d : Snd) : ∀ k, (askD now frm k d).session = d.session ∧ (askD now frm k d).sum = d.sum ∧ (askD now frm k d).acked = d.acked ∧ (askD now frm k d).ch = d.ch ∧ (askD now frm k d).sz = d.sz ∧ (askD now frm k d).phase = d.phase ∧ (askD now frm k d).err = d.err ∧ (askD now frm k d).tries = d.tries ∧ (askD now frm k d).win = d.win ∧ (askD now frm k d).back = d.back ∧ (askD now frm k d).retry = d.retry ∧ (askD now frm k d).quota = d.quota
  | 0 => ⟨rfl, rfl, rfl, rfl, rfl, rfl, rfl, rfl, rfl, rfl, rfl, rfl⟩
  | k + 1 => by
    unfold askD
    split
    · exact askD_st now frm d k
    · exact askD_st now frm d k
set_option maxRecDepth 100000 in
set_option maxHeartbeats 4000000 in
theorem ask_calls {g : Nat} {p : SP} {d : Snd} {Fq G : Nat → Prop} {w : World} (h : SAt g p d Fq G w) (frm n : Nat) (hk : frm + n ≤ d.tries.length) (now : Int) :
    Calls Tryz.prog 146 #[.pointer (some ⟨g, 0, none⟩), .int .i64 frm, .int .i64 (frm + n : Nat), .int .i64 now] w fun e w' => (∃ v, e = .returned v) ∧ ∃ Fq', SAt g p (askD now frm n d) Fq' G w' ∧ Keep (SF g p.rt Fq) w w' ∧ Grew Fq Fq' w := by
  have hn := h.ok.n
  have H := Lib.hid h
  clear h
  obtain ⟨to, hto⟩ : ∃ to, frm + n = to := ⟨_, rfl⟩
  rw [hto] at hk ⊢
  go_enter Tryz.func146, Tryz.ntmps146
  go_wp2
  go_loopw [8] (fun v wr => ∃ k : Nat, k ≤ n ∧ v = .int .i64 (frm + k : Nat) ∧ Hid (∃ Fq', SAt g p (askD now frm k d) Fq' G wr ∧ Keep (SF g p.rt Fq) w wr ∧ Grew Fq Fq' w)) (fun v _ => to - (intOf v).toNat)
  case atStart => exact ⟨0, by omega, by simp, Fq, H.out, Keep.refl _ _, Grew.refl _ _⟩
  case round =>
    clear H
    obtain ⟨k, hkn, rfl, HH⟩ := hrel
    obtain ⟨F1, hS, hK, hG⟩ := HH.out
    obtain ⟨c0, c1, c2, c3, c4, c5, c6, c7, c8, c9, c10, c11, c12, c13, c14, cf⟩ := cells15 hS.cell
    have hst := askD_st now frm d k
    by_cases hlt : k < n
    · obtain ⟨key, hkey⟩ : ∃ key, frm + k = key := ⟨_, rfl⟩
      have hlt' : (key : Int) < to := by omega
      have hw : IntKind.i64.wrap ((key : Int) + 1) = (key : Int) + 1 := IntWalk.i64_in _ (by omega)
      rw [hst.2.2.1] at c12
      have HS := Lib.hid hS
      have HK := Lib.hid hK
      have HG := Lib.hid hG
      have HR : Hid (SliceR 1 (.slice p.Aa d.acked.length p.ca) d.acked.length (u8s d.acked) wr) := by
        have := hS.ro.now.2.2
        rw [hst.2.2.1] at this
        exact this
      have HB : Hid (OkB d.acked) := by
        have := hS.ok.acked
        rw [hst.2.2.1] at this
        exact this
      have HT : Hid ((askD now frm k d).tries.length = d.tries.length) := Lib.hid (by rw [hst.2.2.2.2.2.2.2.1])
      have Hkey := Lib.hid hkey
      rw [hkey]
      clear hS hK hG HH hst hkey
      rcases hb1 : hasL (askD now frm k d).tm (key : Int) with _ | _
      · rcases hb2 : getB d.acked key with _ | _
        · have Hyes : Hid (askD now frm (k + 1) d = setD (askD now frm k d) key now) := Lib.hid (by rw [askD, Hkey.out, if_pos ⟨hb1, hb2⟩])
          have Hb1 := Lib.hid hb1
          have Hb2 := Lib.hid hb2
          clear hb1 hb2
          go_wp2_with fail
          refine (tat_calls HS.out.que key (okI_nat (by omega))).mono ?_
          rintro e w2 ⟨rfl, rfl⟩
          rw [Hb1.out]
          go_wp2_with fail
          refine (bget_calls p.Aa p.ca d.acked HB.out key (by omega) wr HR.out).mono ?_
          rintro e w2 ⟨rfl, rfl⟩
          rw [Hb2.out]
          go_wp2_with fail
          refine (sset_calls HS.out key (by rw [HT.out]; omega) now).mono ?_
          rintro e w3 ⟨⟨v3, rfl⟩, F3, hS3, hK3, hG3⟩
          have HH3 : Hid (∃ Fq', SAt g p (askD now frm (k + 1) d) Fq' G w3 ∧ Keep (SF g p.rt Fq) w w3 ∧ Grew Fq Fq' w) := Lib.hid ⟨F3, by rw [Hyes.out]; exact hS3, keep_sf HK.out HG.out hK3, HG.out.trans hG3 HK.out.size⟩
          clear hS3 hK3 hG3
          go_wp2
          go_roundw
          case rel => exact ⟨k + 1, by omega, by rw [← Nat.add_assoc, Hkey.out]; go_num, HH3⟩
          case measure => simp [intOf]; omega
        · have Hno : Hid (askD now frm (k + 1) d = askD now frm k d) := Lib.hid (by rw [askD, Hkey.out, if_neg (fun h => by rw [hb2] at h; simp at h)])
          have Hb1 := Lib.hid hb1
          have Hb2 := Lib.hid hb2
          clear hb1 hb2
          go_wp2_with fail
          refine (tat_calls HS.out.que key (okI_nat (by omega))).mono ?_
          rintro e w2 ⟨rfl, rfl⟩
          rw [Hb1.out]
          go_wp2_with fail
          refine (bget_calls p.Aa p.ca d.acked HB.out key (by omega) wr HR.out).mono ?_
          rintro e w2 ⟨rfl, rfl⟩
          rw [Hb2.out]
          go_wp2
          go_roundw
          case rel => exact ⟨k + 1, by omega, by rw [← Nat.add_assoc, Hkey.out]; go_num, F1, by rw [Hno.out]; exact HS.out, HK.out, HG.out⟩
          case measure => simp [intOf]; omega
      · have Hno : Hid (askD now frm (k + 1) d = askD now frm k d) := Lib.hid (by rw [askD, Hkey.out, if_neg (fun h => by rw [hb1] at h; simp at h)])
        have Hb1 := Lib.hid hb1
        clear hb1
        go_wp2_with fail
        refine (tat_calls HS.out.que key (okI_nat (by omega))).mono ?_
        rintro e w2 ⟨rfl, rfl⟩
        rw [Hb1.out]
        go_wp2
        go_roundw
        case rel => exact ⟨k + 1, by omega, by rw [← Nat.add_assoc, Hkey.out]; go_num, F1, by rw [Hno.out]; exact HS.out, HK.out, HG.out⟩
        case measure => simp [intOf]; omega
    · obtain rfl : k = n := by omega
      rw [hto]
      have hlt' : ¬ ((to : Int) < to) := by omega
      go_wp2
      go_end0
      exact ⟨⟨_, rfl⟩, HH.out⟩
end Go.Proofs.YtfkcpaahdlkcdaaGreat

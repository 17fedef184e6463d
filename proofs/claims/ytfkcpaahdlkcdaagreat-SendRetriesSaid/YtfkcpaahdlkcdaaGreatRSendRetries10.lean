import Derived.Test.YtfkcpaahdlkcdaaGreatRSendRetries09
set_option linter.unusedSimpArgs false
set_option linter.unusedVariables false
set_option maxRecDepth 100000
set_option maxHeartbeats 16000000
namespace Go.Proofs.YtfkcpaahdlkcdaaGreat
open Go.RowKit
def ofG (d : Snd) (key : Nat) : Gm := if key < pagesN d.sz then ⟨1, d.session, key, pagesN d.sz, d.sum, pageP d.sz key, []⟩ else ⟨2, d.session, (key - pagesN d.sz : Nat), d.ch.length, d.sum, [], d.ch.getD (key - pagesN d.sz) []⟩
def gmOf (d : Snd) (kind : Int) : Gm := ⟨kind, d.session, 0, 0, d.sum, [], []⟩
theorem of_any {g : Nat} {p : SP} {d : Snd} {Fq G : Nat → Prop} {w : World} (h : SAt g p d Fq G w) (key : Nat) (hk : key < d.tries.length) :
    Calls Tryz.prog 79 #[.pointer (some ⟨g, 0, none⟩), .int .i64 key] w fun e w' => ∃ A1 n1 k1 A2 n2 k2 Fx, e = .returned (.agg #[.int .i64 (ofG d key).kind, .int .u64 (ofG d key).session, .int .i64 (ofG d key).index, .int .i64 (ofG d key).of, .int .u32 ((ofG d key).sum : Nat), .slice A1 n1 k1, .slice A2 n2 k2]) ∧ Grow w w' ∧ Foot (GmR (ofG d key, .slice A1 n1 k1, .slice A2 n2 k2)) w' Fx ∧ ∀ k, Fx k → w.heap.size ≤ k := by
 by_cases hp : key < pagesN d.sz
 ·refine (of_page h key hp).mono ?_
  rintro e w' ⟨A, c, rfl, hg, ho⟩
  refine ⟨A, (pageP d.sz key).length, c, none, 0, 0, _, by simp only [ofG, if_pos hp], hg, (Foot.of_own ho).imp (fun W hW => ?_), fun k hk => (ho.lt k hk).1⟩
  unfold ofG GmR
  rw [if_pos hp]
  exact ⟨hW, sliceR_none 1 W⟩
 ·have htl := h.ok.tlen
  have hi : key - pagesN d.sz < d.ch.length := by omega
  refine (of_chunk h key (key - pagesN d.sz) (by omega) hi).mono ?_
  rintro e w' ⟨A, c, rfl, hg, ho⟩
  have hgd : d.ch.getD (key - pagesN d.sz) [] = d.ch[key - pagesN d.sz] := by simp [hi]
  refine ⟨none, 0, 0, A, (d.ch[key - pagesN d.sz]).length, c, _, by simp only [ofG, if_neg hp], hg, (Foot.of_own ho).imp (fun W hW => ?_), fun k hk => (ho.lt k hk).1⟩
  unfold ofG GmR
  rw [if_neg hp]
  dsimp only
  rw [hgd]
  exact ⟨sliceR_none 1 W, hW⟩
def stepD (now : Int) (key : Nat) (d : Snd) : Snd := { setD d key (now + pauseN d.back (d.tries.getD key 0)) with tries := d.tries.set key (d.tries.getD key 0 + 1) }
def tickL (now : Int) : List KT → Snd → List Gm → Snd × List Gm
 | [], d, out => (d, out)
 | x :: r, d, out => if d.retry ≤ d.tries.getD x.1.toNat 0 then (endD d 3 33, out ++ [gmOf d 8]) else tickL now r (stepD now x.1.toNat d) (out ++ [ofG d x.1.toNat])
theorem OkS.inc {d : Snd} (h : OkS d) (key : Nat) (x : Int) (h0 : 0 ≤ x) (h1 : x ≤ d.retry) : OkS { d with tries := d.tries.set key x } := by
 refine ⟨h.s0, h.s1, h.sum, h.fit, h.ch, h.chl, h.conf, h.phase, h.err, h.acked, ?_, ?_, ?_, ?_⟩
 ·show d.acked.length = ((d.tries.set key x).length + 7) / 8
  rw [List.length_set]; exact h.alen
 ·show (d.tries.set key x).length = _
  rw [List.length_set]; exact h.tlen
 ·intro y hy
  rcases List.mem_or_eq_of_mem_set hy with hy | rfl
  ·exact h.tr y hy
  ·exact ⟨h0, h1⟩
 ·intro y hy
  have := h.tm y hy
  show 0 ≤ y.1 ∧ y.1 < ((d.tries.set key x).length : Nat)
  rw [List.length_set]; exact this
theorem SF_new {g rt : Nat} {F F' X : Nat → Prop} {w : World} (h : Grew F F' w) (hX : ∀ k, X k → ¬ SF g rt F k ∧ k < w.heap.size) : ∀ k, X k → ¬ SF g rt F' k := fun k hk hS => by
 obtain ⟨h1, h2⟩ := hX k hk
 rcases hS with e | e | e
 ·exact h1 (.inl e)
 ·exact h1 (.inr (.inl e))
 ·rcases h k e with e | e
  ·exact h1 (.inr (.inr e))
  ·omega
structure TKI (g rt O : Nat) (Fq G : Nat → Prop) (w : World) (p : SP) (d : Snd) (Fk : Nat → Prop) (rows : List GRow) (v : Value) (Gr : Nat → Prop) (vd : Value) (ds : List KT) (FD : Nat → Prop) (wr : World) : Prop where
 sat : SAt g p d Fk G wr
 hrt : p.rt = rt
 keep : Keep (SF g rt Fq) w wr
 grew : Grew Fq Fk w
 cell : wr.heap[O]? = some (.cells #[v] 43 (0, 0))
 out : GOut w.heap.size rows v Gr wr
 due : Foot (SliceR 1 vd ds.length (keysV ds)) wr FD
 xd : ∀ k, (k = O ∨ v.ownBlock = some k ∨ Gr k ∨ FD k) → ¬ SF g rt Fk k
 xo : v.ownBlock ≠ some O ∧ ¬ Gr O ∧ ¬ FD O
 xv : ∀ k, v.ownBlock = some k → ¬ FD k
 xg : ∀ k, G k → k < w.heap.size
 ob : w.heap.size ≤ O
namespace TKI
variable {g rt O : Nat} {Fq G : Nat → Prop} {w : World} {p : SP} {d : Snd} {Fk : Nat → Prop} {rows : List GRow} {v : Value} {Gr : Nat → Prop} {vd : Value} {ds : List KT} {FD : Nat → Prop} {wr : World}
theorem xlt (h : TKI g rt O Fq G w p d Fk rows v Gr vd ds FD wr) : ∀ k, (k = O ∨ v.ownBlock = some k ∨ Gr k ∨ FD k) → k < wr.heap.size := fun k hk => by
 rcases hk with e | e | e | e
 ·rw [e]; exact (gE h.cell).1
 ·exact h.out.lt k (.inl e)
 ·exact h.out.lt k (.inr e)
 ·exact h.due.lt e
theorem sender (h : TKI g rt O Fq G w p d Fk rows v Gr vd ds FD wr) {p' : SP} {d' : Snd} {F' : Nat → Prop} {w' : World} (hS : SAt g p' d' F' G w') (hp : p'.rt = rt) (hK : Keep (SF g rt Fk) wr w') (hG : Grew Fk F' wr) : TKI g rt O Fq G w p' d' F' rows v Gr vd ds FD w' :=
 ⟨hS, hp, keep_sf h.keep h.grew hK, h.grew.trans hG h.keep.size, (hK.block O (h.xlt O (.inl rfl)) (h.xd O (.inl rfl))).trans h.cell, h.out.keep hK (fun k hk => h.xd k (.inr (.inl hk))) (fun k hk => h.xd k (.inr (.inr (.inl hk)))), h.due.keep hK (fun k hk => h.xd k (.inr (.inr (.inr hk)))),
  SF_new hG (fun k hk => ⟨h.xd k hk, h.xlt k hk⟩), h.xo, h.xv, h.xg, h.ob⟩
theorem grow (h : TKI g rt O Fq G w p d Fk rows v Gr vd ds FD wr) {w' : World} (hK : Grow wr w') : TKI g rt O Fq G w p d Fk rows v Gr vd ds FD w' :=
 h.sender (h.sat.grow hK) h.hrt (hK.mono (fun _ h => h.elim)) (Grew.refl _ _)
theorem push (h : TKI g rt O Fq G w p d Fk rows v Gr vd ds FD wr) {x : GRow} {Fx : Nat → Prop} {v' : Value} {w' : World} (hx : Foot (GmR x) wr Fx) (hxb : ∀ k, Fx k → w.heap.size ≤ k) (hxs : ∀ k, Fx k → ¬ SF g rt Fk k) (hOx : ¬ Fx O) (hvx : ∀ k, v.ownBlock = some k → ¬ Fx k)
    (hc : w'.heap[O]? = some (.cells #[v'] 43 (0, 0))) (hown : w'.ownsRow w.heap.size 46 7 v' (rows.length + 1) (gcells rows ++ x.1.cs x.2.1 x.2.2)) (hk : Keep (fun k => k = O ∨ v.ownBlock = some k) wr w') (hat : ∀ k, v'.ownBlock = some k → v.ownBlock = some k ∨ wr.heap.size ≤ k) (hno : v'.ownBlock ≠ some O) :
    TKI g rt O Fq G w p d Fk (rows ++ [x]) v' (fun k => Gr k ∨ Fx k) vd ds FD w' := by
 have hge : ∀ k, (k = O ∨ v.ownBlock = some k) → w.heap.size ≤ k := fun k hk => by
  rcases hk with e | e
  ·rw [e]; exact h.ob
  ·exact (h.out.own.lt k e).1
 have hSF : ∀ k, SF g p.rt Fk k → ¬ (k = O ∨ v.ownBlock = some k) := fun k hk h2 => by
  rw [h.hrt] at hk
  rcases h2 with e | e
  ·exact h.xd k (.inl e) hk
  ·exact h.xd k (.inr (.inl e)) hk
 refine ⟨h.sat.keep hk hSF (fun k hk h2 => by have := h.xg k hk; have := hge k h2; omega), h.hrt, h.keep.trans hk (fun i hi => .inr (hge i hi)), h.grew, hc,
  h.out.push hx hxb h.xo.2.1 hOx hvx hk hown hat, h.due.keep hk (fun k hk h2 => ?_), fun k hk h2 => ?_, ⟨hno, fun h2 => h2.elim h.xo.2.1 hOx, h.xo.2.2⟩, fun k hk h2 => ?_, h.xg, h.ob⟩
 ·rcases h2 with e | e
  ·exact h.xo.2.2 (e ▸ hk)
  ·exact h.xv k e hk
 ·rcases hk with e | e | e | e
  ·exact h.xd k (.inl e) h2
  ·rcases hat k e with e | e
   ·exact h.xd k (.inr (.inl e)) h2
   ·have := (h.sat.small k (by rw [h.hrt]; exact h2)); omega
  ·rcases e with e | e
   ·exact h.xd k (.inr (.inr (.inl e))) h2
   ·exact hxs k e h2
  ·exact h.xd k (.inr (.inr (.inr e))) h2
 ·rcases hat k hk with e | e
  ·exact h.xv k e h2
  ·have := h.due.lt h2; omega
end TKI
end Go.Proofs.YtfkcpaahdlkcdaaGreat
namespace Go.Proofs.YtfkcpaahdlkcdaaGreat
open Go.RowKit
theorem pauseN_bd {back n : Int} (h : 1 ≤ back) (h2 : back ≤ 64) (h0 : 0 ≤ n) : 1 ≤ pauseN back n ∧ pauseN back n ≤ 64 := by
 unfold pauseN
 have : (1 : Int) ≤ 2 ^ (min n 10).toNat := by
  have := Nat.one_le_two_pow (n := (min n 10).toNat)
  exact_mod_cast this
 omega
theorem SAt.tried {g : Nat} {p : SP} {d : Snd} {Fq G : Nat → Prop} {w : World} (h : SAt g p d Fq G w) (key : Nat) (x : Int) (h0 : 0 ≤ x) (h1 : x ≤ d.retry) : SAt g p { d with tries := d.tries.set key x } Fq G (w.setCell ⟨p.rt, key, none⟩ (.int .i64 x)) ∧ Keep (SF g p.rt Fq) w (w.setCell ⟨p.rt, key, none⟩ (.int .i64 x)) := by
 obtain ⟨d1, d2, d3, d4, d5, d6⟩ := h.dis
 have hl : (d.tries.set key x).length = d.tries.length := List.length_set
 have hK2 := keep_put p.rt key w (.int .i64 x)
 have hst := h.tri.stored key (.int .i64 x)
 rw [ints_set] at hst
 refine ⟨⟨?_, h.que.keep hK2 (fun k hk e => d3 (e ▸ hk)), ?_, h.ro.keep hK2 (fun k hk e => d5 (e ▸ hk)), ⟨d1, d2, d3, d4, d5, d6⟩, fun k hk => by simpa using h.lt k hk, h.ok.inc key x h0 h1⟩, hK2.mono (fun k e => .inr (.inl e))⟩
 ·show _ = some (Obj.cells #[_, _, _, _, _, _, _, _, _, _, _, _, _, .slice _ (d.tries.set key x).length _, _] _ _)
  rw [hl]
  exact (hK2.block g h.gq d1).trans h.cell
 ·show World.ownsRow _ _ _ _ (.slice _ (d.tries.set key x).length _) (d.tries.set key x).length (ints (d.tries.set key x))
  rw [hl]
  exact hst.1
theorem SAt.try_cell {g : Nat} {p : SP} {d : Snd} {Fq G : Nat → Prop} {w : World} (h : SAt g p d Fq G w) (key : Nat) (hk : key < d.tries.length) : w.cell? ⟨p.rt, key, none⟩ = some (.int .i64 (d.tries.getD key 0)) ∧ w.frozen? ⟨p.rt, key, none⟩ = false := by
 refine ⟨?_, h.tri.frozenAt _⟩
 obtain ⟨r, c2, e, _, _, hcs⟩ := own_cells h.tri (by omega)
 injection e with e1
 injection e1 with e1
 injection e1 with e1
 have := hcs key (.int .i64 (d.tries.getD key 0)) (by simp [ints, hk])
 rw [← e1] at this
 simpa using this
theorem SAt.queue0 {g : Nat} {p : SP} {d : Snd} {Fq G : Nat → Prop} {w w' : World} (h : SAt g p d Fq G w) {tm : List KT} (hQ : Que p.q tm Fq w') (hK : Keep Fq w w') (hok : OkS { d with tm := tm }) : SAt g p { d with tm := tm } Fq G w' := by
 obtain ⟨d1, d2, d3, d4, d5, d6⟩ := h.dis
 exact ⟨(hK.block g h.gq d2).trans h.cell, hQ, own_keep h.tri hK (fun k hk => by cases hk; exact d3), h.ro.keep hK (fun k hk e => d6 k e hk), ⟨d1, d2, d3, d4, d5, d6⟩, fun k hk => Nat.lt_of_lt_of_le (h.lt k hk) hK.size, hok⟩
theorem OkS.rest {d : Snd} (h : OkS d) (now : Int) : OkS { d with tm := restL d.tm now } :=
 ⟨h.s0, h.s1, h.sum, h.fit, h.ch, h.chl, h.conf, h.phase, h.err, h.acked, h.alen, h.tlen, h.tr, fun x hx => h.tm x (List.mem_filter.1 hx).1⟩
theorem tick_calls {g : Nat} {p : SP} {d : Snd} {Fq G : Nat → Prop} {w : World} (h : SAt g p d Fq G w) (hp : d.phase = 1) (now : Int) (h0 : 0 ≤ now) (h1 : now ≤ 1000000000000) :
    Calls Tryz.prog 19 #[.pointer (some ⟨g, 0, none⟩), .int .i64 now] w fun e w' => ∃ A c rows Gr p' Fq' ds, e = .returned (.slice A rows.length c) ∧ DueOf (openD now d).tm now ds ∧ p'.rt = p.rt ∧ SAt g p' (tickL now ds { openD now d with tm := restL (openD now d).tm now } []).1 Fq' G w' ∧ rows.map (·.1) = (tickL now ds { openD now d with tm := restL (openD now d).tm now } []).2 ∧ GOut w.heap.size rows (.slice A rows.length c) Gr w' ∧ Keep (SF g p.rt Fq) w w' ∧ Grew Fq Fq' w ∧ ∀ k, ((Value.slice A rows.length c).ownBlock = some k ∨ Gr k) → ¬ SF g p.rt Fq' k := by
 have hn := h.ok.n
 have HXG : Hid (∀ k, G k → k < w.heap.size) := LH (fun k hk => h.ro.lt hk)
 obtain ⟨c0, c1, c2, c3, c4, c5, c6, c7, c8, c9, c10, c11, c12, c13, c14, cf⟩ := cells15 h.cell
 rw [hp] at c10
 obtain ⟨d1, hd1⟩ : ∃ d1, openD now d = d1 := ⟨_, rfl⟩
 have ho := open_calls h now
 rw [hd1] at ho ⊢
 have HOP := LH ho
 have HRET := LH (h.ok.conf)
 clear h hp ho hd1
 go_enter Tryz.func19, Tryz.ntmps19
 go_wp2_with fail
 refine HOP.out.mono ?_
 rintro e w1 ⟨⟨v1, rfl⟩, F1, hS, hK, hG⟩
 clear c0 c1 c2 c3 c4 c5 c6 c7 c8 c9 c10 c11 c12 c13 c14 cf HOP
 have hga := (Keep.refl NoB w1).alloc (.cells #[.slice none 0 0] 43)
 have HO := LH (heap_alloc_new w1 (.cells #[.slice none 0 0] 43))
 have HS := LH (hS.grow hga)
 have HK := LH (hK.grow hga)
 have HG := LH hG
 have hsz1 := hK.size
 have HOS : Hid (¬ SF g p.rt F1 w1.heap.size) := LH (fun e => by have := hS.small _ e; omega)
 have hc0 := (cells15 (hS.grow hga).cell).1
 have hsz2 : (w1.alloc (.cells #[.slice none 0 0] 43)).heap.size = w1.heap.size + 1 := by simp
 have hfew := hS.que.few
 clear hS hK hG hga
 go_wp2_with fail
 refine (tdue_calls HS.out.que HS.out.lt now).mono ?_
 rintro e w3 ⟨ds, A3, k3, rfl, hdue, hQ, hKq, hob⟩
 have hlen : ds.length ≤ 1000 := by have := hdue.len; omega
 have hS3 := HS.out.queue0 hQ hKq (HS.out.ok.rest now)
 have hK3 : Keep (SF g p.rt F1) (w1.alloc (.cells #[.slice none 0 0] 43)) w3 := hKq.mono (fun k e => .inr (.inr e))
 have HDUE := LH hdue
 have HDM : Hid (∀ x, x ∈ ds → 0 ≤ x.1 ∧ x.1 < d1.tries.length) := LH (fun x hx => HS.out.ok.tm x ((hdue.mem x).1 hx).1)
 obtain ⟨d0, hd0⟩ : ∃ d0, { d1 with tm := restL d1.tm now } = d0 := ⟨_, rfl⟩
 have HTI : Hid (TKI g p.rt w1.heap.size Fq G w p d0 F1 [] (.slice none 0 0) NoB (.slice A3 ds.length k3) ds (fun k => (Value.slice A3 ds.length k3).ownBlock = some k) w3) := by
  have hOl := (gE HO.out).1
  have hOF : ¬ F1 w1.heap.size := fun e => HOS.out (.inr (.inr e))
  rw [hd0] at hS3
  refine LH ⟨hS3, rfl, keep_sf HK.out HG.out hK3, HG.out, (hKq.block w1.heap.size hOl hOF).trans HO.out, GOut.nil _ _, Foot.of_own hob, fun k hk h2 => ?_, ⟨by simp [Value.ownBlock], fun h => h, fun e => ?_⟩, fun k hk => by simp [Value.ownBlock] at hk, HXG.out, hsz1⟩
  ·rcases hk with e | e | e | e
   ·subst e
    rcases h2 with e | e | e
    ·exact HOS.out (.inl e)
    ·exact HOS.out (.inr (.inl e))
    ·exact hOF e
   ·simp [Value.ownBlock] at e
   ·exact e
   ·have h9 := (hob.lt k e).1
    have := HS.out.small k h2
    omega
  ·have := (hob.lt _ e).1; omega
 clear hS3 hK3 hQ hKq hob hc0 hdue HS HK HG HO HOS
 have hlr := HRET.out.retry1
 have hlr2 := HRET.out.retry2
 generalize w1.heap.size = O at HTI hsz1 hsz2
 clear hsz1 hsz2
 have hst : Hid (∀ x, x ∈ ds → 0 ≤ x.1 ∧ x.1 < d0.tries.length) := LH (fun x hx => by rw [← hd0]; exact HDM.out x hx)
 have HD0 := LH hd0
 clear HDM hn hfew hd0
 go_wp2
 go_loopw [29] (fun v wr => ∃ k : Nat, k ≤ ds.length ∧ v = .int .i64 k ∧ Hid (∃ p' dk Fk rows v' Gr, TKI g p.rt O Fq G w p' dk Fk rows v' Gr (.slice A3 ds.length k3) ds (fun k => (Value.slice A3 ds.length k3).ownBlock = some k) wr ∧ tickL now (ds.drop k) dk (rows.map (·.1)) = tickL now ds d0 [] ∧ rows.length = k ∧ dk.tries.length = d0.tries.length)) (fun v _ => ds.length - (intOf v).toNat)
 case atStart => exact ⟨0, by omega, rfl, p, d0, F1, [], _, NoB, HTI.out, rfl, rfl, rfl⟩
 case round =>
  clear HTI
  obtain ⟨k, hk, rfl, HH⟩ := hrel
  obtain ⟨p', dk, Fk, rows, v', Gr, hT, hL, hrl, htl⟩ := HH.out
  have HT := LH hT
  clear HH
  by_cases hlt : k < ds.length
  ·have hx := hst.out ds[k] (List.getElem_mem hlt)
   obtain ⟨key, hkey⟩ : ∃ key : Nat, ds[k].1 = key := ⟨ds[k].1.toNat, by omega⟩
   have hkl : key < dk.tries.length := by omega
   rw [List.drop_eq_getElem_cons hlt, tickL, hkey, Int.toNat_natCast] at hL
   obtain ⟨A9, k9, e9, _, _, _, hcs⟩ := HT.out.due.now
   injection e9 with e9 _ e11
   subst e9
   subst e11
   obtain ⟨ad, hAd, hcell⟩ := hcs k (.int .i64 key) (by simp [keysV, hlt, hkey])
   subst hAd
   clear hcs hkey hx hT
   obtain ⟨t, ht⟩ : ∃ t, dk.tries.getD key 0 = t := ⟨_, rfl⟩
   obtain ⟨tc, tf⟩ := HT.out.sat.try_cell key hkl
   have htb : 0 ≤ t ∧ t ≤ dk.retry := by
    rw [← ht]
    have : dk.tries.getD key 0 = dk.tries[key] := by simp [hkl]
    rw [this]
    exact HT.out.sat.ok.tr _ (List.getElem_mem hkl)
   rw [ht] at tc hL
   have HT0 := LH ht
   have hrl2 := HT.out.sat.ok.conf.retry2
   have hb1 := HT.out.sat.ok.conf.back1
   have hb2 := HT.out.sat.ok.conf.back2
   obtain ⟨c0, c1, c2, c3, c4, c5, c6, c7, c8, c9, c10, c11, c12, c13, c14, cf⟩ := cells15 HT.out.sat.cell
   have hk0 : (k : Int) < ds.length := by omega
   have hkl' : (key : Int) < dk.tries.length := by omega
   have HO := LH HT.out.ob
   have HHK := LH HT.out.keep.size
   have HOL := LH (HT.out.xlt O (.inl rfl))
   have HVL := LH (fun j hj => HT.out.xlt j (.inr (.inl hj)))
   have HSM : Hid (∀ j, SF g p.rt Fk j → j < wr.heap.size) := LH (fun j hj => HT.out.sat.small j (by rw [HT.out.hrt]; exact hj))
   have HTLN := LH htl
   have HRL := LH hrl
   have hrlb : rows.length ≤ 1000000 := by omega
   clear ht htl hrl
   by_cases hb : dk.retry ≤ t
   ·have hL2 := LH (show (endD dk 3 33, rows.map (·.1) ++ [gmOf dk 8]) = tickL now ds d0 [] from by rw [if_pos hb] at hL; exact hL)
    have hbb : decide (dk.retry ≤ t) = true := by simpa using hb
    clear hL
    go_wp2
    refine region_ord [0, 1, 2, 3, 4, 5, 6, 7, 8, 9, 10, 11, 12] [] [3, 6, 11] [] rfl (by kernel_rfl) ?_
    iterate 3
     refine ord_pure rfl rfl rfl rfl rfl (fun _ _ _ _ h => h) ?_ ?_ ?_ ?_ ?_
     rotate_left 2
     ·intro w'; go_simp; with_reducible rfl
     ·simp only [Act.put, pB, pC, pD]; rfl
    refine ord_read rfl rfl rfl rfl rfl (fun _ _ _ _ h => h) ?_ ?_ ?_ ?_ ?_
    rotate_left 2
    ·intro w' hg; have q := hg.cell c13 (fun h => h); go_simp; with_reducible rfl
    ·simp only [Act.put, pB, pC, pD]; rfl
    iterate 2
     refine ord_pure rfl rfl rfl rfl rfl (fun _ _ _ _ h => h) ?_ ?_ ?_ ?_ ?_
     rotate_left 2
     ·intro w'; go_simp; with_reducible rfl
     ·simp only [Act.put, pB, pC, pD]; rfl
    refine ord_read rfl rfl rfl rfl rfl (fun _ _ _ _ h => h) ?_ ?_ ?_ ?_ ?_
    rotate_left 2
    ·intro w' hg; have q := hg.cell tc (fun h => h); go_simp; with_reducible rfl
    ·simp only [Act.put, pB, pC, pD]; rfl
    iterate 4
     refine ord_pure rfl rfl rfl rfl rfl (fun _ _ _ _ h => h) ?_ ?_ ?_ ?_ ?_
     rotate_left 2
     ·intro w'; go_simp; with_reducible rfl
     ·simp only [Act.put, pB, pC, pD]; rfl
    refine ord_read rfl rfl rfl rfl rfl (fun _ _ _ _ h => h) ?_ ?_ ?_ ?_ ?_
    rotate_left 2
    ·intro w' hg; have q := hg.cell c8 (fun h => h); go_simp; with_reducible rfl
    ·simp only [Act.put, pB, pC, pD]; rfl
    refine ord_pure rfl rfl rfl rfl rfl (fun _ _ _ _ h => h) ?_ ?_ ?_ ?_ ?_
    rotate_left 2
    ·intro w'; go_simp; with_reducible rfl
    ·simp only [Act.put, pB, pC, pD]; rfl
    refine ord_nil ?_
    replace HT := LH (HT.out.grow (Keep.refl NoB wr).drew)
    clear c0 c1 c2 c3 c4 c5 c6 c7 c8 c9 c10 c11 c12 c13 c14 cf tc tf hcell
    go_wp2_with fail
    refine (end_calls HT.out.sat 3 33 (by omega) (by omega)).mono ?_
    rintro e w4 ⟨⟨v4, rfl⟩, q4, F4, hS4, hK4, hF4⟩
    rw [HT.out.hrt] at hK4
    have HT4 := LH (HT.out.sender hS4 HT.out.hrt hK4 (fun j hj => .inr (hF4 j hj)))
    clear hS4 hK4 hF4
    go_wp2_with fail
    refine (gram_calls HT4.out.sat 8).mono ?_
    rintro e w5 ⟨rfl, hg⟩
    have HT5 := LH (HT4.out.grow hg)
    clear hg HT4
    go_wp2_with fail
    refine (put_gram HT5.out.cell HT5.out.out.own HT5.out.xo.1 hrlb HT5.out.keep.size (gmOf dk 8) none none 0 0 0 0).mono ?_
    rintro e w6 ⟨⟨v6, rfl⟩, v7, hc6, hown6, hk6, hat6, hno6⟩
    have HT6 := LH (HT5.out.push (x := (gmOf dk 8, .slice none 0 0, .slice none 0 0)) (Fx := NoB) ⟨fun _ h => h.elim, fun W _ => ⟨sliceR_none 1 W, sliceR_none 1 W⟩⟩ (fun _ h => h.elim) (fun _ h => h.elim) (fun h => h) (fun _ _ h => h) hc6 hown6 hk6 hat6 hno6)
    clear hc6 hown6 hk6 hat6 hno6 HT5 HT
    obtain ⟨Af, cf, rfl, _⟩ := own_slice HT6.out.out.own
    have hcf := cell0 HT6.out.cell
    go_wp2
    go_ret
    refine ⟨Af, cf, rows ++ [(gmOf dk 8, .slice none 0 0, .slice none 0 0)], _, _, _, ds, by simp, HDUE.out, HT6.out.hrt, ?_, ?_, HT6.out.out, HT6.out.keep, HT6.out.grew, fun j hj => HT6.out.xd j (hj.elim (fun h => .inr (.inl h)) (fun h => .inr (.inr (.inl h))))⟩
    ·rw [HD0.out, ← hL2.out]; exact HT6.out.sat
    ·rw [HD0.out, ← hL2.out]; simp
   ·have hL2 := LH (show tickL now (ds.drop (k + 1)) (stepD now key dk) (rows.map (·.1) ++ [ofG dk key]) = tickL now ds d0 [] from by rw [if_neg hb] at hL; exact hL)
    have hbb : decide (dk.retry ≤ t) = false := by simpa using hb
    have hbt : t + 1 ≤ dk.retry := by omega
    clear hL
    go_wp2
    refine region_ord [0, 1, 2, 3, 4, 5, 6, 7, 8, 9, 10, 11, 12] [] [3, 6, 11] [] rfl (by kernel_rfl) ?_
    iterate 3
     refine ord_pure rfl rfl rfl rfl rfl (fun _ _ _ _ h => h) ?_ ?_ ?_ ?_ ?_
     rotate_left 2
     ·intro w'; go_simp; with_reducible rfl
     ·simp only [Act.put, pB, pC, pD]; rfl
    refine ord_read rfl rfl rfl rfl rfl (fun _ _ _ _ h => h) ?_ ?_ ?_ ?_ ?_
    rotate_left 2
    ·intro w' hg; have q := hg.cell c13 (fun h => h); go_simp; with_reducible rfl
    ·simp only [Act.put, pB, pC, pD]; rfl
    iterate 2
     refine ord_pure rfl rfl rfl rfl rfl (fun _ _ _ _ h => h) ?_ ?_ ?_ ?_ ?_
     rotate_left 2
     ·intro w'; go_simp; with_reducible rfl
     ·simp only [Act.put, pB, pC, pD]; rfl
    refine ord_read rfl rfl rfl rfl rfl (fun _ _ _ _ h => h) ?_ ?_ ?_ ?_ ?_
    rotate_left 2
    ·intro w' hg; have q := hg.cell tc (fun h => h); go_simp; with_reducible rfl
    ·simp only [Act.put, pB, pC, pD]; rfl
    iterate 4
     refine ord_pure rfl rfl rfl rfl rfl (fun _ _ _ _ h => h) ?_ ?_ ?_ ?_ ?_
     rotate_left 2
     ·intro w'; go_simp; with_reducible rfl
     ·simp only [Act.put, pB, pC, pD]; rfl
    refine ord_read rfl rfl rfl rfl rfl (fun _ _ _ _ h => h) ?_ ?_ ?_ ?_ ?_
    rotate_left 2
    ·intro w' hg; have q := hg.cell c8 (fun h => h); go_simp; with_reducible rfl
    ·simp only [Act.put, pB, pC, pD]; rfl
    refine ord_pure rfl rfl rfl rfl rfl (fun _ _ _ _ h => h) ?_ ?_ ?_ ?_ ?_
    rotate_left 2
    ·intro w'; go_simp; with_reducible rfl
    ·simp only [Act.put, pB, pC, pD]; rfl
    refine ord_nil ?_
    replace HT := LH (HT.out.grow (Keep.refl NoB wr).drew)
    clear c0 c1 c2 c3 c4 c5 c6 c7 c8 c9 c10 c11 c12 c13 c14 cf tc tf hcell
    go_wp2_with fail
    refine (of_any HT.out.sat key hkl).mono ?_
    rintro e w4 ⟨A1, n1, k1, A2, n2, k2, Fx, rfl, hg, hfx, hfb⟩
    have hfb2 : ∀ j, Fx j → wr.heap.size ≤ j := hfb
    have HT4 := LH (HT.out.grow hg)
    have HFX := LH hfx
    have HFB := LH hfb2
    clear hg hfx hfb hfb2
    go_wp2_with fail
    refine (put_gram HT4.out.cell HT4.out.out.own HT4.out.xo.1 hrlb HT4.out.keep.size (ofG dk key) A1 A2 n1 k1 n2 k2).mono ?_
    rintro e w6 ⟨⟨v6, rfl⟩, v7, hc6, hown6, hk6, hat6, hno6⟩
    have HT6 := LH (HT4.out.push (x := (ofG dk key, .slice A1 n1 k1, .slice A2 n2 k2)) HFX.out (fun j hj => Nat.le_trans HHK.out (HFB.out j hj)) (fun j hj h2 => by have := HFB.out j hj; have := HSM.out j h2; omega) (fun h2 => by have := HFB.out O h2; have := HOL.out; omega) (fun j hj h2 => by have := HFB.out j h2; have := HVL.out j hj; omega) hc6 hown6 hk6 hat6 hno6)
    clear hc6 hown6 hk6 hat6 hno6 HT4 HT HFX HFB
    obtain ⟨c0, c1, c2, c3, c4, c5, c6, c7, c8, c9, c10, c11, c12, c13, c14, cf⟩ := cells15 HT6.out.sat.cell
    obtain ⟨tc, tf⟩ := HT6.out.sat.try_cell key hkl
    rw [HT0.out] at tc
    obtain ⟨pa, hpa⟩ : ∃ pa, pauseN dk.back t = pa := ⟨_, rfl⟩
    have hpb := pauseN_bd hb1 hb2 htb.1
    have hpc := pause_calls (HT6.out.sat.grow (Keep.refl NoB w6).drew) t htb.1
    rw [hpa] at hpb hpc
    have HPC := LH hpc
    have HPA := LH hpa
    have hw1 : IntKind.i64.wrap (now + pa) = now + pa := IntWalk.i64_in _ (by omega)
    have hw2 : IntKind.i64.wrap (t + 1) = t + 1 := IntWalk.i64_in _ (by omega)
    have ht10 : 0 ≤ t + 1 := by omega
    clear hpc hpa hpb
    go_wp2
    refine region_ord [0, 1, 2, 3, 4, 5, 6, 7, 8, 9, 10, 11, 12, 13, 14, 15, 16] [14, 16] [3, 10, 13] [16] rfl (by kernel_rfl) ?_
    iterate 3
     refine ord_pure rfl rfl rfl rfl rfl (fun _ _ _ _ h => h) ?_ ?_ ?_ ?_ ?_
     rotate_left 2
     ·intro w'; go_simp; with_reducible rfl
     ·simp only [Act.put, pB, pC, pD]; rfl
    refine ord_read rfl rfl rfl rfl rfl (fun _ _ _ _ h => h) ?_ ?_ ?_ ?_ ?_
    rotate_left 2
    ·intro w' hg; have q := hg.cell c0 (fun h => h); go_simp; with_reducible rfl
    ·simp only [Act.put, pB, pC, pD]; rfl
    iterate 6
     refine ord_pure rfl rfl rfl rfl rfl (fun _ _ _ _ h => h) ?_ ?_ ?_ ?_ ?_
     rotate_left 2
     ·intro w'; go_simp; with_reducible rfl
     ·simp only [Act.put, pB, pC, pD]; rfl
    refine ord_read rfl rfl rfl rfl rfl (fun _ _ _ _ h => h) ?_ ?_ ?_ ?_ ?_
    rotate_left 2
    ·intro w' hg; have q := hg.cell c13 (fun h => h); go_simp; with_reducible rfl
    ·simp only [Act.put, pB, pC, pD]; rfl
    iterate 2
     refine ord_pure rfl rfl rfl rfl rfl (fun _ _ _ _ h => h) ?_ ?_ ?_ ?_ ?_
     rotate_left 2
     ·intro w'; go_simp; with_reducible rfl
     ·simp only [Act.put, pB, pC, pD]; rfl
    refine ord_read rfl rfl rfl rfl rfl (fun _ _ _ _ h => h) ?_ ?_ ?_ ?_ ?_
    rotate_left 2
    ·intro w' hg; have q := hg.cell tc (fun h => h); go_simp; with_reducible rfl
    ·simp only [Act.put, pB, pC, pD]; rfl
    refine ord_call rfl rfl rfl rfl rfl Tryz.func81 rfl rfl [.pointer (some ⟨g, 0, none⟩), .int .i64 t] rfl ?_
    refine HPC.out.mono ?_
    rintro e w7 ⟨rfl, hg7⟩
    refine ⟨_, rfl, fun _ => hg7, ?_⟩
    simp only [Act.put, pB, pC, pD]
    refine ord_pure rfl rfl rfl rfl rfl (fun _ _ _ _ h => h) ?_ ?_ ?_ ?_ ?_
    rotate_left 2
    ·intro w'; go_simp; with_reducible rfl
    ·simp only [Act.put, pB, pC, pD]; rfl
    refine ord_call rfl rfl rfl rfl rfl Tryz.func80 rfl rfl [.pointer (some ⟨p'.q, 0, none⟩), .int .i64 key, .int .i64 (now + pa)] rfl ?_
    replace HT6 := LH ((HT6.out.grow (Keep.refl NoB w6).drew).grow hg7)
    refine (sset_calls HT6.out.sat key hkl (now + pa)).mono ?_
    rintro e w8 ⟨⟨v8, rfl⟩, F8, hS8, hK8, hG8⟩
    refine ⟨_, rfl, fun h => absurd (by simp) h, ?_⟩
    simp only [Act.put, pB, pC, pD]
    refine ord_nil ?_
    rw [HT6.out.hrt] at hK8
    have HT8 := LH (HT6.out.sender hS8 HT6.out.hrt hK8 hG8)
    clear hS8 hK8 hG8 HT6 hg7 HPC c0 c1 c2 c3 c4 c5 c6 c7 c8 c9 c10 c11 c12 c13 c14 cf tc tf
    have hst8 := HT8.out.sat.tried key (t + 1) ht10 hbt
    rw [HT8.out.hrt] at hst8
    have hT9 := HT8.out.sender hst8.1 HT8.out.hrt hst8.2 (Grew.refl _ _)
    have hstep : { setD dk key (now + pa) with tries := (setD dk key (now + pa)).tries.set key (t + 1) } = stepD now key dk := by
     unfold stepD
     rw [HT0.out, HPA.out]
     rfl
    rw [hstep] at hT9
    have HT9 := LH hT9
    have HST : Hid ((stepD now key dk).tries.length = d0.tries.length) := LH (by rw [← HTLN.out]; exact List.length_set)
    obtain ⟨c0, c1, c2, c3, c4, c5, c6, c7, c8, c9, c10, c11, c12, c13, c14, cf⟩ := cells15 HT8.out.sat.cell
    obtain ⟨tc, tf⟩ := HT8.out.sat.try_cell key hkl
    have htc : (setD dk key (now + pa)).tries.getD key 0 = t := HT0.out
    rw [htc] at tc
    rw [HT8.out.hrt] at tc tf c13
    have c13' : w8.cell? ⟨g, 13, none⟩ = some (.slice (some ⟨p.rt, 0, none⟩) dk.tries.length p'.ct) := c13
    clear htc hstep hst8 hT9 c0 c1 c2 c3 c4 c5 c6 c7 c8 c9 c10 c11 c12 c13 c14 cf HT8
    go_wp2
    go_roundw
    case rel => exact ⟨k + 1, by omega, by go_num, p', _, F8, rows ++ [(ofG dk key, .slice A1 n1 k1, .slice A2 n2 k2)], v7, _, HT9.out, by rw [← hL2.out, List.map_append]; rfl, by rw [List.length_append, HRL.out]; rfl, HST.out⟩
    case measure => simp [intOf]; omega
  ·obtain rfl : k = ds.length := by omega
   have hL2 := LH (show (dk, rows.map (·.1)) = tickL now ds d0 [] from by rw [List.drop_length, tickL] at hL; exact hL)
   clear hL hT hrl htl
   obtain ⟨Af, cf, rfl, _⟩ := own_slice HT.out.out.own
   have hcf := cell0 HT.out.cell
   have hlt' : ¬ ((ds.length : Int) < ds.length) := by omega
   go_wp2
   go_ret
   refine ⟨Af, cf, rows, rfl, _, _, _, ds, HDUE.out, HT.out.hrt, ?_, ?_, HT.out.out, HT.out.keep, HT.out.grew, fun j hj => HT.out.xd j (hj.elim (fun h => .inr (.inl h)) (fun h => .inr (.inr (.inl h))))⟩
   ·rw [HD0.out, ← hL2.out]; exact HT.out.sat
   ·rw [HD0.out, ← hL2.out]
end Go.Proofs.YtfkcpaahdlkcdaaGreat
namespace Go.Proofs.YtfkcpaahdlkcdaaGreat
open Go.RowKit
theorem any_cut {P : Program} {ops : Array Oper} {Q : Exit → Act → World → Prop} {S : Nat → Prop} {ds : List Nat} {md : Region.Mode} {a : Act} {w : World} {n m : Nat} {l : Array Bool} (ord acts reads : List Nat) (l' : Array Bool)
    (hc : (Region.noSelect ops && ordOkC md ops acts reads ds (fun k => k == l') ord l && (n + ord.length == m)) = true)
    (h : wpOrdC S P ops Q (wpAnyG S P md ops Q ds n l') acts reads ds ord a w) : wpAnyG S P md ops Q ds m l a w := by
 simp only [Bool.and_eq_true, beq_iff_eq] at hc
 have := wpAnyG_of_ordC (n := n) hc.1.1 (fun k a w hl hq => by rw [beq_iff_eq.1 hl]; exact hq) ord _ a w hc.1.2 h
 rwa [hc.2] at this
theorem info_bytes : (Tryz.prog.info? 23).map (fun i => (i.zero, i.size, i.bytes)) = some (some (.slice none 0 0), 1, 24) := by kernel_rfl
theorem u_bss : Tryz.prog.underlying 129 = some (.slice 23) := by kernel_rfl
theorem check_fit {a : List (List Int)} (h : checkP a = 0) : fitsB (szs a) = true := by
 unfold checkP decP at h
 by_cases hf : fitsB (szs a) = true
 ·exact hf
 ·simp [hf] at h
theorem fit_flat {a : List (List Int)} (h : fitsB (szs a) = true) : a.flatten.length ≤ 4096 := by
 have h1 := szs_sum a
 unfold fitsB at h
 simp only [decide_eq_true_eq] at h
 omega
def chsP (a : List (List Int)) : List (List Int) := (List.range (chunksN (szs a))).map (chunkP a)
theorem chsP_length (a : List (List Int)) : (chsP a).length = chunksN (szs a) := by simp [chsP]
def newD (session : Int) (a : List (List Int)) (win back retry quota : Int) : Snd :=
 ⟨session, szs a, sumP session a, chsP a, win, back, retry, quota, 1, 0, makeB (pagesN (szs a) + chunksN (szs a)), List.replicate (pagesN (szs a) + chunksN (szs a)) 0, []⟩
theorem maniB_in (session : Int) (a : List (List Int)) : ∀ x ∈ maniB session a, 0 ≤ x ∧ x ≤ 255 := fun x hx => by
 unfold maniB at hx
 rcases List.mem_append.1 hx with hx | hx
 ·rcases List.mem_append.1 hx with hx | hx
  ·exact putB_in _ _ x hx
  ·obtain ⟨y, _, hy⟩ := List.mem_flatMap.1 hx
   exact putB_in _ _ x hy
 ·exact arenaB_in a x hx
theorem newD_ok {session : Int} {a : List (List Int)} {win back retry quota : Int} (h0 : 0 ≤ session) (h1 : session ≤ 18446744073709551615) (hf : fitsB (szs a) = true) (hc : OkC win back retry quota) : OkS (newD session a win back retry quota) := by
 refine ⟨h0, h1, moreN_lt (n := 0) (by omega) (maniB_in session a), hf, chsP_length a, fun x hx => ?_, hc, .inl rfl, by simp [newD], OkB.make _, ?_, ?_, fun x hx => ?_, fun x hx => by cases hx⟩
 ·obtain ⟨i, _, rfl⟩ := List.mem_map.1 hx
  exact ⟨chunkP_length a i, chunkP_in a i⟩
 ·show (makeB _).length = ((List.replicate _ (0 : Int)).length + 7) / 8
  rw [makeB_length, List.length_replicate]
 ·show (List.replicate _ (0 : Int)).length = pagesN (szs a) + (chsP a).length
  rw [List.length_replicate, chsP_length]
 ·have hx : x = 0 := List.eq_of_mem_replicate hx
  have := hc.retry1
  subst hx
  exact ⟨Int.le_refl _, by show (0 : Int) ≤ retry; omega⟩
structure NewI (g : Nat) (W : World) (session : Int) (a : List (List Int)) (win back retry quota : Int) (q : Nat) (As : Option Addr) (cs : Nat) (Fq G1 : Nat → Prop) (rows : List Value) (Ac : Option Addr) (cc : Nat) (Gc : Nat → Prop) (aa tt : Value) (w : World) : Prop where
 cell : w.heap[g]? = some (.cells #[.pointer (some ⟨q, 0, none⟩), .int .u64 session, .slice As (szs a).length cs, .int .u32 (sumP session a : Nat), .int .i64 (pagesN (szs a) : Nat), .slice Ac rows.length cc, .int .i64 win, .int .i64 back, .int .i64 retry, .int .i64 quota, .int .i64 1, .int .u16 0, aa, tt, .int .u64 session] 131 (0, 0))
 que : Que q [] Fq w
 sz : Foot (SliceR 1 (.slice As (szs a).length cs) (szs a).length (ints (szs a))) w G1
 own : w.ownsRow (g + 1) 23 1 (.slice Ac rows.length cc) rows.length rows
 rws : Foot (fun w => ∀ i (h : i < rows.length), ∃ A c, rows[i] = .slice A (chunkP a i).length c ∧ SliceR 1 (.slice A (chunkP a i).length c) (chunkP a i).length (u8s (chunkP a i)) w) w Gc
 fq : ∀ k, Fq k → W.heap.size ≤ k ∧ k < g
 fg : ∀ k, Fq k → ¬ G1 k
 g1 : ∀ k, G1 k → W.heap.size ≤ k ∧ k < g
 gc : ∀ k, Gc k → g < k
 dis : ∀ k, (Value.slice Ac rows.length cc).ownBlock = some k → ¬ Gc k
 grow : Grow W w
 wg : W.heap.size ≤ g
namespace NewI
variable {g : Nat} {W : World} {session : Int} {a : List (List Int)} {win back retry quota : Int} {q : Nat} {As : Option Addr} {cs : Nat} {Fq G1 : Nat → Prop} {rows : List Value} {Ac : Option Addr} {cc : Nat} {Gc : Nat → Prop} {aa tt : Value} {w w' : World}
theorem later (h : NewI g W session a win back retry quota q As cs Fq G1 rows Ac cc Gc aa tt w) (hk : Grow w w') : NewI g W session a win back retry quota q As cs Fq G1 rows Ac cc Gc aa tt w' :=
 ⟨Grow.heap hk h.cell, h.que.keep hk (fun _ _ h => h), h.sz.grow hk, own_keep h.own hk (fun _ _ h => h), h.rws.grow hk, h.fq, h.fg, h.g1, h.gc, h.dis, h.grow.grow hk, h.wg⟩
theorem acked (h : NewI g W session a win back retry quota q As cs Fq G1 rows Ac cc Gc aa tt w) (v : Value) : NewI g W session a win back retry quota q As cs Fq G1 rows Ac cc Gc v tt (w.setCell ⟨g, 12, none⟩ v) :=
 have hk := keep_put g 12 w v
 ⟨stored15_12 v h.cell, h.que.keep hk (fun k hk e => by have := (h.fq k hk).2; omega), h.sz.keep hk (fun k hk e => by have := (h.g1 k hk).2; omega), own_keep h.own hk (fun k hk e => by have := (h.own.lt k hk).1; omega), h.rws.keep hk (fun k hk e => by have := h.gc k hk; omega), h.fq, h.fg, h.g1, h.gc, h.dis, h.grow.setCell (p := ⟨g, 12, none⟩) (.inr h.wg) v, h.wg⟩
theorem tries (h : NewI g W session a win back retry quota q As cs Fq G1 rows Ac cc Gc aa tt w) (v : Value) : NewI g W session a win back retry quota q As cs Fq G1 rows Ac cc Gc aa v (w.setCell ⟨g, 13, none⟩ v) :=
 have hk := keep_put g 13 w v
 ⟨stored15_13 v h.cell, h.que.keep hk (fun k hk e => by have := (h.fq k hk).2; omega), h.sz.keep hk (fun k hk e => by have := (h.g1 k hk).2; omega), own_keep h.own hk (fun k hk e => by have := (h.own.lt k hk).1; omega), h.rws.keep hk (fun k hk e => by have := h.gc k hk; omega), h.fq, h.fg, h.g1, h.gc, h.dis, h.grow.setCell (p := ⟨g, 13, none⟩) (.inr h.wg) v, h.wg⟩
theorem chunk (h : NewI g W session a win back retry quota q As cs Fq G1 rows Ac cc Gc aa tt w) {Fx : Nat → Prop} {A : Option Addr} {c : Nat} (hx : Foot (SliceR 1 (.slice A (chunkP a rows.length).length c) (chunkP a rows.length).length (u8s (chunkP a rows.length))) w Fx) (hxg : ∀ k, Fx k → g < k) (hxd : ∀ k, (Value.slice Ac rows.length cc).ownBlock = some k → ¬ Fx k)
    {A' : Option Addr} {c' : Nat} (hgr : w.grownBy w' (Value.slice Ac rows.length cc).ownBlock) (hown : w'.ownsRow (g + 1) 23 1 (.slice A' (rows.length + 1) c') (rows.length + 1) (rows ++ [.slice A (chunkP a rows.length).length c])) (hat : ∀ k, (Value.slice A' (rows.length + 1) c').ownBlock = some k → (Value.slice Ac rows.length cc).ownBlock = some k ∨ w.heap.size ≤ k) :
    NewI g W session a win back retry quota q As cs Fq G1 (rows ++ [.slice A (chunkP a rows.length).length c]) A' c' (fun k => Gc k ∨ Fx k) aa tt (w'.setCell ⟨g, 5, none⟩ (.slice A' (rows.length + 1) c')) := by
 have hkr : Keep (fun k => (Value.slice Ac rows.length cc).ownBlock = some k) w w' := (Keep.refl _ w).grown hgr (fun k hk => .inl hk)
 have hk5 := keep_put g 5 w' (.slice A' (rows.length + 1) c')
 have hK : Keep (fun k => k = g ∨ (Value.slice Ac rows.length cc).ownBlock = some k) w (w'.setCell ⟨g, 5, none⟩ (.slice A' (rows.length + 1) c')) := (hkr.mono (fun k e => .inr e)).trans (hk5.mono (fun k e => .inl e)) (fun _ h => .inl h)
 have hlo : ∀ k, (Value.slice Ac rows.length cc).ownBlock = some k → g < k := fun k hk => (h.own.lt k hk).1
 have hl : (rows ++ [Value.slice A (chunkP a rows.length).length c]).length = rows.length + 1 := by simp
 refine ⟨?_, h.que.keep hK (fun k hk e => ?_), h.sz.keep hK (fun k hk e => ?_), ?_, ?_, h.fq, h.fg, h.g1, fun k hk => hk.elim (h.gc k) (hxg k), fun k hk h2 => ?_, ?_, h.wg⟩
 ·rw [hl]
  exact stored15_5 _ ((hkr.block g (gE h.cell).1 (fun e => by have := hlo g e; omega)).trans h.cell)
 ·have := (h.fq k hk).2
  rcases e with e | e
  ·omega
  ·have := hlo k e; omega
 ·have := (h.g1 k hk).2
  rcases e with e | e
  ·omega
  ·have := hlo k e; omega
 ·rw [hl]
  exact own_keep hown hk5 (fun k hk e => by have := (hown.lt k hk).1; omega)
 ·refine ((h.rws.and hx).imp (fun W2 hW i hi => ?_)).keep hK (fun k hk e => ?_)
  ·rw [hl] at hi
   by_cases he : i < rows.length
   ·obtain ⟨A2, c2, e2, h2⟩ := hW.1 i he
    exact ⟨A2, c2, by rw [List.getElem_append_left he]; exact e2, h2⟩
   ·obtain rfl : i = rows.length := by omega
    exact ⟨A, c, by simp, hW.2⟩
  ·rcases hk with hk | hk
   ·rcases e with e | e
    ·have := h.gc k hk; omega
    ·exact h.dis k e hk
   ·rcases e with e | e
    ·have := hxg k hk; omega
    ·exact hxd k e hk
 ·rw [hl] at hk
  rcases hat k hk with e | e
  ·rcases h2 with h2 | h2
   ·exact h.dis k e h2
   ·exact hxd k e h2
  ·rcases h2 with h2 | h2
   ·have := h.rws.lt h2; omega
   ·have := hx.lt h2; omega
 ·exact h.grow.trans hK (fun i hi => by
    have := h.wg
    rcases hi with e | e
    ·exact .inr (by omega)
    ·have := hlo i e
     exact .inr (by omega))
theorem done {rt N B : Nat} {Aa : Option Addr} {ca ct ba : Nat} (h : NewI g W session a win back retry quota q As cs Fq G1 rows Ac cc Gc (.slice Aa (makeB N).length ca) (.slice (some ⟨rt, 0, none⟩) N ct) w) (hok : OkS (newD session a win back retry quota)) (hr : rows.length = chunksN (szs a)) (hN : N = pagesN (szs a) + chunksN (szs a))
    (hA : w.ownsRow ba 5 1 (.slice Aa (makeB N).length ca) (makeB N).length (u8s (makeB N))) (hT : w.ownsRow 0 3 1 (.slice (some ⟨rt, 0, none⟩) N ct) N (ints (List.replicate N 0)))
    (hne : (Value.slice Aa (makeB N).length ca).ownBlock ≠ some rt) (hB1 : ∀ k, (Value.slice Aa (makeB N).length ca).ownBlock = some k → B ≤ k) (hB2 : B ≤ rt) (hB3 : g < B) (hB4 : ∀ k, ((Value.slice Ac rows.length cc).ownBlock = some k ∨ Gc k) → k < B) :
    ∃ p Fq' G, SAt g p (newD session a win back retry quota) Fq' G w ∧ Grow W w ∧ (∀ k, SF g p.rt Fq' k → W.heap.size ≤ k) ∧ ∀ k, G k → W.heap.size ≤ k := by
 have hlo : ∀ k, (Value.slice Ac rows.length cc).ownBlock = some k → g < k := fun k hk => (h.own.lt k hk).1
 have hcl : (chsP a).length = rows.length := by rw [chsP_length, hr]
 have hnl : (List.replicate (pagesN (szs a) + chunksN (szs a)) (0 : Int)).length = N := by rw [List.length_replicate, hN]
 have hwg := h.wg
 refine ⟨⟨q, rt, As, Ac, Aa, cs, cc, ca, ct⟩, Fq, fun k => (G1 k ∨ (Value.slice Ac rows.length cc).ownBlock = some k ∨ Gc k) ∨ (Value.slice Aa (makeB N).length ca).ownBlock = some k, ⟨?_, h.que, ?_, ?_, ⟨show g ≠ rt from by omega, fun e => by have := (h.fq g e).2; omega, fun e => by have := (h.fq rt e).2; omega, fun e => ?_, fun e => ?_, fun k hk e => ?_⟩, fun k hk => ?_, hok⟩, h.grow, fun k hk => ?_, fun k hk => ?_⟩
 ·have := h.cell
  show _ = some (Obj.cells #[_, _, _, _, _, .slice Ac (chsP a).length cc, _, _, _, _, _, _, .slice Aa (makeB (pagesN (szs a) + chunksN (szs a))).length ca, .slice _ (List.replicate (pagesN (szs a) + chunksN (szs a)) (0 : Int)).length ct, _] _ _)
  rw [hcl, hnl, ← hN]
  exact this
 ·show w.ownsRow 0 _ 1 (.slice _ (List.replicate (pagesN (szs a) + chunksN (szs a)) (0 : Int)).length ct) (List.replicate (pagesN (szs a) + chunksN (szs a)) (0 : Int)).length _
  rw [hnl]
  show w.ownsRow 0 _ 1 _ _ (ints (List.replicate (pagesN (szs a) + chunksN (szs a)) 0))
  rw [← hN]
  exact hT
 ·refine ((h.sz.and ((Foot.of_own h.own).and h.rws)).and (Foot.of_own hA)).imp (fun W2 hW => ⟨hW.1.1, ?_, ?_⟩)
  ·obtain ⟨⟨_, hs, hc⟩, _⟩ := hW
   show RowsR .u8 (chsP a) (.slice Ac (chsP a).length cc) W2
   refine ⟨Ac, cc, rfl, fun i hi => ?_⟩
   obtain ⟨A9, c9, e9, _, _, _, hcs⟩ := hs
   injection e9 with e9 _ _
   have hi2 : i < rows.length := by omega
   obtain ⟨A', c', e', hr'⟩ := hc i hi2
   obtain ⟨ad, had, hcell⟩ := hcs i rows[i] (List.getElem?_eq_getElem hi2)
   have hce : (chsP a)[i] = chunkP a i := by simp [chsP]
   rw [hce]
   refine ⟨ad, A', c', by rw [e9, had], by rw [hcell, e'], hr'⟩
  ·show SliceR 1 (.slice Aa (makeB (pagesN (szs a) + chunksN (szs a))).length ca) (makeB (pagesN (szs a) + chunksN (szs a))).length (u8s (makeB (pagesN (szs a) + chunksN (szs a)))) W2
   rw [← hN]
   exact hW.2
 ·rcases e with (e | e | e) | e
  ·have := (h.g1 g e).2; omega
  ·have := hlo g e; omega
  ·have := h.gc g e; omega
  ·have := hB1 g e; omega
 ·rcases e with (e | e | e) | e
  ·have := (h.g1 rt e).2; omega
  ·have := hB4 rt (.inl e); omega
  ·have := hB4 rt (.inr e); omega
  ·exact hne e
 ·have := (h.fq k hk).2
  rcases e with (e | e | e) | e
  ·exact h.fg k hk e
  ·have := hlo k e; omega
  ·have := h.gc k e; omega
  ·have := hB1 k e; omega
 ·have h1 := (h.fq k hk).2
  have := (gE h.cell).1
  omega
 ·rcases hk with e | e | e
  ·omega
  ·rw [e]; show W.heap.size ≤ rt; omega
  ·exact (h.fq k e).1
 ·rcases hk with (e | e | e) | e
  ·exact (h.g1 k e).1
  ·have := hlo k e; omega
  ·have := h.gc k e; omega
  ·have := hB1 k e; omega
end NewI
end Go.Proofs.YtfkcpaahdlkcdaaGreat
namespace Go.Proofs.YtfkcpaahdlkcdaaGreat
open Go.RowKit
theorem snew_err (session : Int) (a : List (List Int)) (ho : OkA a) (hc : checkP a ≠ 0) {win back retry quota : Int} (hconf : OkC win back retry quota) (A : Option Addr) (c : Nat) (w : World) (hR : RowsR .u64 a (.slice A a.length c) w) :
    Calls Tryz.prog 16 #[.int .u64 session, .slice A a.length c, .agg #[.int .i64 win, .int .i64 back, .int .i64 retry, .int .i64 quota]] w fun e w' => e = .returned (.tuple #[.pointer none, .int .u16 (checkP a)]) ∧ Grow w w' := by
 have HG := LH ((Keep.refl NoB w).alloc (.cells #[.int .i64 win, .int .i64 back, .int .i64 retry, .int .i64 quota] 26))
 have H := LH (hR.grow HG.out)
 have hcb : (checkP a == 0) = false := by simpa using hc
 clear hR hc
 go_enter Tryz.func16, Tryz.ntmps16
 go_wp2_with fail
 refine (sright_calls win back retry quota hconf _).mono ?_
 rintro e w1 ⟨rfl, hg⟩
 replace HG := LH (HG.out.grow hg)
 replace H := LH (H.out.grow hg)
 clear hg
 go_wp2_with fail
 refine (check_calls a _ _ H.out ho).mono ?_
 rintro e w2 ⟨rfl, hg⟩
 replace HG := LH (HG.out.grow hg)
 clear hg
 go_wp2
 go_ret2
 exact ⟨rfl, HG.out⟩
theorem make_ints (w : World) (N : Nat) (hN : N ≤ 1000) : ∃ w', (Instr.makeSlice 37 (.int .i64 (N : Int)) (.int .i64 (N : Int))).run Tryz.prog w = .ok (.slice (some ⟨w.heap.size, 0, none⟩) N N) w' ∧ w'.ownsRow w.heap.size 3 1 (.slice (some ⟨w.heap.size, 0, none⟩) N N) N (ints (List.replicate N 0)) ∧ Grow w w' := by
 obtain ⟨i, hi, h1, h2, h3⟩ := info_parts info_int
 obtain ⟨w', hr, ho, hg⟩ := run_make_full (P := Tryz.prog) (w := w) w.heap.size 37 3 i (.int .i64 0) 1 u_ints hi h1 h2 .i64 .i64 N (by rw [h3]; omega) (by simp [maxLen]; omega) (Nat.le_refl _)
 refine ⟨w', hr, ?_, (Keep.refl NoB w).grown hg (by simp)⟩
 have h0 : (madeCells (Value.int .i64 0).cells (N * 1)).toList = ints (List.replicate N 0) := by
  apply List.ext_getElem (by simp [ints, madeCells, Value.cells])
  intro j h1 h2
  simp [ints, madeCells, Value.cells, Nat.mod_one]
 rw [h0] at ho
 exact ho
theorem snew_calls (session : Int) (h0 : 0 ≤ session) (h1 : session ≤ 18446744073709551615) (a : List (List Int)) (ho : OkA a) (hc : checkP a = 0) {win back retry quota : Int} (hconf : OkC win back retry quota) (A : Option Addr) (c : Nat) (w : World) (hR : RowsR .u64 a (.slice A a.length c) w) :
    Calls Tryz.prog 16 #[.int .u64 session, .slice A a.length c, .agg #[.int .i64 win, .int .i64 back, .int .i64 retry, .int .i64 quota]] w fun e w' => ∃ g p Fq G, e = .returned (.tuple #[.pointer (some ⟨g, 0, none⟩), .int .u16 0]) ∧ SAt g p (newD session a win back retry quota) Fq G w' ∧ Grow w w' ∧ (∀ k, SF g p.rt Fq k → w.heap.size ≤ k) ∧ ∀ k, G k → w.heap.size ≤ k := by
 have hfit := check_fit hc
 have hfl := fit_flat hfit
 have HFIT := LH hfit
 have hga := (Keep.refl NoB w).alloc (.cells #[.int .i64 win, .int .i64 back, .int .i64 retry, .int .i64 quota] 26)
 have HG := LH hga
 have HC := LH (heap_alloc_new w (.cells #[.int .i64 win, .int .i64 back, .int .i64 retry, .int .i64 quota] 26))
 have H := LH (hR.grow hga)
 have HCK := LH hc
 have HR0 := LH hR
 have HO := LH ho
 clear hR hc hga hfit ho
 go_enter Tryz.func16, Tryz.ntmps16
 go_wp2_with fail
 refine (sright_calls win back retry quota hconf _).mono ?_
 rintro e w1 ⟨rfl, hg⟩
 replace HG := LH (HG.out.grow hg)
 replace HC := LH (Grow.heap hg HC.out)
 replace H := LH (H.out.grow hg)
 clear hg
 go_wp2_with fail
 refine (check_calls a _ _ H.out HO.out).mono ?_
 rintro e w2 ⟨rfl, hg⟩
 rw [HCK.out]
 replace HG := LH (HG.out.grow hg)
 replace HC := LH (Grow.heap hg HC.out)
 replace H := LH (H.out.grow hg)
 clear hg
 go_wp2_with fail
 refine (maniof_calls session h0 h1 a HO.out HFIT.out (by omega) A c w2 H.out).mono ?_
 rintro e w3 ⟨As, cs, rfl, hg, G1, hsz, hG1⟩
 have hga := (Keep.refl NoB w3).alloc (.cells #[.int .u64 session, .slice As (szs a).length cs, .int .u32 (sumP session a : Nat)] 40)
 have hM := heap_alloc_new w3 (.cells #[.int .u64 session, .slice As (szs a).length cs, .int .u32 (sumP session a : Nat)] 40)
 have hsz0 := HG.out.size
 replace HG := LH ((HG.out.grow hg).grow hga)
 replace HC := LH (Grow.heap hga (Grow.heap hg HC.out))
 replace H := LH ((H.out.grow hg).grow hga)
 have HSZ := LH (hsz.grow hga)
 have HM := LH hM
 have HG1 : Hid (∀ k, G1 k → w.heap.size ≤ k) := LH (fun k hk => Nat.le_trans hsz0 (hG1 k hk))
 clear hg hga hsz hG1 hM hsz0
 go_wp2
 generalize w3.alloc (.cells #[.int .u64 session, .slice As (szs a).length cs, .int .u32 (sumP session a : Nat)] 40) = w4 at HG HC H HSZ HM ⊢
 generalize w3.heap.size = M at HM ⊢
 obtain ⟨m0, m1, m2, mf⟩ := cells3 HM.out
 obtain ⟨k0, k1, k2, k3, kf⟩ := cells4 HC.out
 refine region_ord [1, 2, 4, 5, 0, 3, 6, 7, 8] [0, 3, 7, 8] [1, 2, 4] [] rfl (by kernel_rfl) ?_
 refine ord_read rfl rfl rfl rfl rfl (fun _ _ _ _ h => h) ?_ ?_ ?_ ?_ ?_
 rotate_left 2
 ·intro w' hg; have q0 := hg.cell m0 (fun h => h); have q1 := hg.cell m1 (fun h => h); have q2 := hg.cell m2 (fun h => h); go_simp; with_reducible rfl
 ·simp only [Act.put, pB, pC, pD]; rfl
 refine ord_read rfl rfl rfl rfl rfl (fun _ _ _ _ h => h) ?_ ?_ ?_ ?_ ?_
 rotate_left 2
 ·intro w' hg; have q0 := hg.cell m0 (fun h => h); have q1 := hg.cell m1 (fun h => h); have q2 := hg.cell m2 (fun h => h); go_simp; with_reducible rfl
 ·simp only [Act.put, pB, pC, pD]; rfl
 refine ord_read rfl rfl rfl rfl rfl (fun _ _ _ _ h => h) ?_ ?_ ?_ ?_ ?_
 rotate_left 2
 ·intro w' hg; have q0 := hg.cell k0 (fun h => h); have q1 := hg.cell k1 (fun h => h); have q2 := hg.cell k2 (fun h => h); have q3 := hg.cell k3 (fun h => h); go_simp; with_reducible rfl
 ·simp only [Act.put, pB, pC, pD]; rfl
 refine ord_pure rfl rfl rfl rfl rfl (fun _ _ _ _ h => h) ?_ ?_ ?_ ?_ ?_
 rotate_left 2
 ·intro w'; go_simp; with_reducible rfl
 ·simp only [Act.put, pB, pC, pD]; rfl
 refine ord_call rfl rfl rfl rfl rfl Tryz.func62 rfl rfl [] rfl ?_
 refine (tnew_calls _).mono ?_
 rintro e w5 ⟨q, Fq, rfl, hQ, hg5, hF5⟩
 refine ⟨_, rfl, fun _ => hg5, ?_⟩
 simp only [Act.put, pB, pC, pD]
 have hgd := (Keep.refl NoB w4).drew.grow hg5
 have hsz4 := HG.out.size
 have hFq : ∀ k, Fq k → w.heap.size ≤ k ∧ k < w5.heap.size := fun k hk => ⟨Nat.le_trans hsz4 (hF5 k hk).1, (hF5 k hk).2⟩
 have hG1 : ∀ k, G1 k → w.heap.size ≤ k ∧ k < w5.heap.size := fun k hk => ⟨HG1.out k hk, Nat.lt_of_lt_of_le (HSZ.out.lt hk) hgd.size⟩
 have HSZ4 : Hid (∀ k, G1 k → k < w4.heap.size) := LH (fun k hk => HSZ.out.lt hk)
 replace HSZ := LH (HSZ.out.grow hgd)
 have HGW := LH (HG.out.grow hgd)
 have HH := LH (H.out.grow hgd)
 have HMM := LH (Grow.heap hgd HM.out)
 have HQ := LH hQ
 have HFQ := LH hFq
 have HFG : Hid (∀ k, Fq k → ¬ G1 k) := LH (fun k hk h2 => by have h3 := (hF5 k hk).1; have h4 := HSZ4.out k h2; have h5 : w4.drew.heap.size = w4.heap.size := rfl; omega)
 have HGG := LH hG1
 clear hQ hg5 hF5 hgd hsz4 hFq hG1
 refine ord_call rfl rfl rfl rfl rfl Tryz.func63 rfl rfl [.agg #[.int .u64 session, .slice As (szs a).length cs, .int .u32 (sumP session a : Nat)]] rfl ?_
 refine (mpages_calls session (sumP session a) As cs (szs a) w5 HSZ.out.now HFIT.out).mono ?_
 rintro e w6 ⟨rfl, hg6⟩
 refine ⟨_, rfl, fun _ => hg6, ?_⟩
 simp only [Act.put, pB, pC, pD]
 refine ord_pure rfl rfl rfl rfl rfl (fun _ _ _ _ h => h) ?_ ?_ ?_ ?_ ?_
 rotate_left 2
 ·intro w'; go_simp; with_reducible rfl
 ·simp only [Act.put, pB, pC, pD]; rfl
 refine ord_new rfl rfl rfl rfl ?_ ?_ ?_ ?_ ?_ ?_
 rotate_left 3
 ·go_simp; first | with_reducible rfl | (constructor <;> with_reducible rfl)
 ·simp only [Act.put, pB, pC, pD]; rfl
 refine ord_set rfl rfl rfl rfl ?_ ?_ ?_ ?_ ?_
 rotate_left 2
 ·go_simp; with_reducible rfl
 ·simp only [Act.put, pB, pC, pD]; rfl
 refine ord_nil ?_
 have hga := (Keep.refl NoB w6).alloc (.cells #[.pointer (some ⟨q, 0, none⟩), .int .u64 session, .slice As (szs a).length cs, .int .u32 (sumP session a : Nat), .int .i64 (pagesN (szs a) : Nat), .slice none 0 0, .int .i64 win, .int .i64 back, .int .i64 retry, .int .i64 quota, .int .i64 1, .int .u16 0, .slice none 0 0, .slice none 0 0, .int .u64 session] 131)
 have HN : Hid (NewI w6.heap.size w session a win back retry quota q As cs Fq G1 [] none 0 NoB (.slice none 0 0) (.slice none 0 0) (w6.alloc (.cells #[.pointer (some ⟨q, 0, none⟩), .int .u64 session, .slice As (szs a).length cs, .int .u32 (sumP session a : Nat), .int .i64 (pagesN (szs a) : Nat), .slice none 0 0, .int .i64 win, .int .i64 back, .int .i64 retry, .int .i64 quota, .int .i64 1, .int .u16 0, .slice none 0 0, .slice none 0 0, .int .u64 session] 131))) := by
  have h6 := hg6.size
  refine LH ⟨heap_alloc_new w6 _, (HQ.out.keep hg6 (fun _ _ h => h)).keep hga (fun _ _ h => h), (HSZ.out.grow hg6).grow hga, World.ownsRow_nil _ _ _ _, ⟨fun _ h => h.elim, fun W2 _ i hi => by simp at hi⟩, fun k hk => ?_, fun k hk h2 => HFG.out k hk h2, fun k hk => ?_, fun _ h => h.elim, fun _ _ h => h, (HGW.out.grow hg6).grow hga, ?_⟩
  ·have := HFQ.out k hk; omega
  ·have := HGG.out k hk; omega
  ·have := HGW.out.size; omega
 replace HH := LH ((HH.out.grow hg6).grow hga)
 replace HMM := LH (Grow.heap hga (Grow.heap hg6 HMM.out))
 clear hg6 hga HSZ HGW HQ HFQ HGG HG HC H HM HG1 HCK m0 m1 m2 mf k0 k1 k2 k3 kf
 generalize w6.alloc (.cells #[.pointer (some ⟨q, 0, none⟩), .int .u64 session, .slice As (szs a).length cs, .int .u32 (sumP session a : Nat), .int .i64 (pagesN (szs a) : Nat), .slice none 0 0, .int .i64 win, .int .i64 back, .int .i64 retry, .int .i64 quota, .int .i64 1, .int .u16 0, .slice none 0 0, .slice none 0 0, .int .u64 session] 131) = w7 at HN HH HMM ⊢
 generalize w6.heap.size = g at HN ⊢
 obtain ⟨m0, m1, m2, mf⟩ := cells3 HMM.out
 go_wp2_with fail
 refine (mchunks_calls session (sumP session a) As cs (szs a) w7 HN.out.sz.now HFIT.out).mono ?_
 rintro e w8 ⟨rfl, hg⟩
 replace HN := LH (HN.out.later hg)
 replace HH := LH (HH.out.grow hg)
 clear hg HMM m0 m1 m2 mf
 have HOK := LH (newD_ok (session := session) (a := a) (win := win) (back := back) (retry := retry) (quota := quota) h0 h1 HFIT.out hconf)
 have hnb : chunksN (szs a) ≤ 512 ∧ pagesN (szs a) ≤ 4 := by
  have h9 := szs_sum a
  have h8 := fits_parts HFIT.out
  unfold chunksN pagesN
  omega
 obtain ⟨n, hn⟩ : ∃ n, chunksN (szs a) = n := ⟨_, rfl⟩
 have HNN := LH hn
 rw [hn] at hnb ⊢
 clear hn hconf
 go_wp2
 go_loopw [38] (fun v wr => ∃ k : Nat, k ≤ n ∧ v = .int .i64 k ∧ Hid (∃ rows Ac cc Gc, rows.length = k ∧ NewI g w session a win back retry quota q As cs Fq G1 rows Ac cc Gc (.slice none 0 0) (.slice none 0 0) wr)) (fun v _ => n - (intOf v).toNat)
 case atStart => exact ⟨0, by omega, rfl, [], none, 0, NoB, rfl, HN.out⟩
 case round =>
  clear HN HH
  obtain ⟨k, hk, rfl, HR⟩ := hrel
  obtain ⟨rows, Ac, cc, Gc, hrl, hN⟩ := HR.out
  have HN := LH hN
  clear HR hN
  subst hrl
  obtain ⟨c0, c1, c2, c3, c4, c5, c6, c7, c8, c9, c10, c11, c12, c13, c14, cf⟩ := cells15 HN.out.cell
  by_cases hlt : rows.length < n
  ·have hlt' : (rows.length : Int) < n := by omega
   have hw : IntKind.i64.wrap ((rows.length : Int) + 1) = (rows.length : Int) + 1 := IntWalk.i64_in _ (by omega)
   have HCH := LH (mchunk_calls a HO.out HFIT.out (by omega) rows.length (by rw [HNN.out]; exact hlt) A c wr.drew (HR0.out.grow HN.out.grow.drew))
   have hgl := (gE HN.out.cell).1
   go_wp2
   refine region_ord [0, 1, 2, 3, 4, 5, 6, 7, 8, 9, 10, 11, 12] [7, 8, 9, 12] [4] [9, 12] rfl (by kernel_rfl) ?_
   iterate 4
    refine ord_pure rfl rfl rfl rfl rfl (fun _ _ _ _ h => h) ?_ ?_ ?_ ?_ ?_
    rotate_left 2
    ·intro w'; go_simp; with_reducible rfl
    ·simp only [Act.put, pB, pC, pD]; rfl
   refine ord_read rfl rfl rfl rfl rfl (fun _ _ _ _ h => h) ?_ ?_ ?_ ?_ ?_
   rotate_left 2
   ·intro w' hg; have q := hg.cell c5 (fun h => h); go_simp; with_reducible rfl
   ·simp only [Act.put, pB, pC, pD]; rfl
   iterate 2
    refine ord_pure rfl rfl rfl rfl rfl (fun _ _ _ _ h => h) ?_ ?_ ?_ ?_ ?_
    rotate_left 2
    ·intro w'; go_simp; with_reducible rfl
    ·simp only [Act.put, pB, pC, pD]; rfl
   refine ord_call rfl rfl rfl rfl rfl Tryz.func65 rfl rfl [.slice A a.length c, .int .i64 rows.length] rfl ?_
   refine HCH.out.mono ?_
   rintro e w9 ⟨A5, k5, rfl, hg9, hob⟩
   refine ⟨_, rfl, fun _ => hg9, ?_⟩
   simp only [Act.put, pB, pC, pD]
   obtain ⟨L, hL⟩ : ∃ L, (chunkP a rows.length).length = L := ⟨_, rfl⟩
   have HLL := LH hL
   rw [hL] at hob ⊢
   clear hL
   refine ord_new rfl rfl rfl rfl ?_ ?_ ?_ ?_ ?_ ?_
   rotate_left 3
   ·go_simp; first | with_reducible rfl | (constructor <;> with_reducible rfl)
   ·simp only [Act.put, pB, pC, pD]; rfl
   have hgx := (Keep.refl NoB wr).drew.grow hg9
   have hga := (Keep.refl NoB w9).alloc (.cells #[.slice A5 L k5] 23)
   have hN9 := (HN.out.later hgx).later hga
   have hx9 := (Foot.of_own hob).grow hga
   have hxlo : ∀ k, (Value.slice A5 L k5).ownBlock = some k → wr.heap.size ≤ k := fun k hk => (hob.lt k hk).1
   have hownlt : ∀ k, (Value.slice Ac rows.length cc).ownBlock = some k → k < wr.heap.size := fun k hk => (HN.out.own.lt k hk).2
   have hg9s := hgx.size
   refine ord_act rfl rfl (fun K hK => ?_)
   refine step_app _ rfl _ _ 129 129 rfl (g + 1) 23 (.slice none 0 0) 1 24 u_bss info_bytes rfl (.slice Ac rows.length cc) rows.length rows rfl (.slice (some ⟨w9.heap.size, 0, none⟩) 1 1) 1 [.slice A5 L k5] rfl ?_ (by exact hN9.own) (by exact Src.ofSlice _ u_bss ⟨w9.heap.size, 0, none⟩ 1 1 _ rfl (World.news_of_block (cs := #[.slice A5 L k5]) (t := 23) (fr := (0, 0)) (heap_alloc_new w9 _)) (by simp [Value.oneCell'])) (by simp only [maxLen]; omega) (by omega) (by simp; omega)
   intro v' w10 hap
   obtain ⟨A', c', rfl, _⟩ := own_slice hap.own
   refine hK _ _ ⟨fun h => absurd (by simp) h, ?_⟩
   clear hK K
   simp only [Act.put, pB, pC, pD]
   have HN10 : Hid (NewI g w session a win back retry quota q As cs Fq G1 (rows ++ [.slice A5 L k5]) A' c' (fun k => Gc k ∨ (Value.slice A5 L k5).ownBlock = some k) (.slice none 0 0) (.slice none 0 0) (w10.setCell ⟨g, 5, none⟩ (.slice A' (rows.length + 1) c'))) := by
    have h9 := HLL.out
    have hat := of_append hap
    have hch := hN9.chunk (A := A5) (c := k5) (by rw [h9]; exact hx9) (fun k hk => by have := hxlo k hk; omega) (fun k hk h2 => by have := hxlo k h2; have := hownlt k hk; omega) hap.grew (by rw [h9]; exact hap.own) (fun k hk => (hat k hk).imp id (fun e => by omega))
    rw [h9] at hch
    exact LH hch
   have hg10 := (((Keep.refl (fun k => (Value.slice Ac rows.length cc).ownBlock = some k) _).grown hap.grew (fun k hk => .inl hk)).block g (gE hN9.cell).1 (fun e => by have := (HN.out.own.lt g e).1; omega)).trans hN9.cell
   have s5 := (cells15 hg10).2.2.2.2.2.1
   have sf := frozen0 5 hg10
   clear hg10
   iterate 2
    refine ord_pure rfl rfl rfl rfl rfl (fun _ _ _ _ h => h) ?_ ?_ ?_ ?_ ?_
    rotate_left 2
    ·intro w'; go_simp; with_reducible rfl
    ·simp only [Act.put, pB, pC, pD]; rfl
   refine ord_put rfl rfl rfl rfl ?_ ?_ (fun h => absurd (by simp) h) ?_
   rotate_left
   ·go_simp; with_reducible rfl
   refine ord_nil ?_
   clear s5 sf hN9 hx9 hxlo hownlt hap HN hob hga hgx c0 c1 c2 c3 c4 c5 c6 c7 c8 c9 c10 c11 c12 c13 c14 cf
   go_wp2
   go_roundw
   case rel => exact ⟨rows.length + 1, by omega, by go_num, rows ++ [.slice A5 L k5], A', c', _, by simp, HN10.out⟩
   case measure => simp [intOf]; omega
  ·have hrn : rows.length = n := by omega
   have HRN := LH (hrn.trans HNN.out.symm)
   rw [hrn] at c5
   have hlt' : ¬ ((n : Int) < n) := by omega
   rw [hrn]
   obtain ⟨pp, hpp⟩ : ∃ pp, pagesN (szs a) = pp := ⟨_, rfl⟩
   rw [hpp] at c4 hnb
   have HPP := LH hpp
   obtain ⟨N, hN⟩ : ∃ N, pp + n = N := ⟨_, rfl⟩
   have HNE : Hid (N = pagesN (szs a) + chunksN (szs a)) := LH (by rw [HPP.out, HNN.out, hN])
   have hNb : N ≤ 1000 := by omega
   have hw : IntKind.i64.wrap ((pp : Int) + n) = (N : Int) := by rw [IntWalk.i64_in _ (by omega)]; omega
   have HNX := LH hN
   clear hN
   clear hpp hlt hrn hk
   go_wp2
   refine region_ord [0, 1, 2, 3, 4, 5, 6, 7, 8, 9, 10] [10] [3, 7] [] rfl (by kernel_rfl) ?_
   iterate 3
    refine ord_pure rfl rfl rfl rfl rfl (fun _ _ _ _ h => h) ?_ ?_ ?_ ?_ ?_
    rotate_left 2
    ·intro w'; go_simp; with_reducible rfl
    ·simp only [Act.put, pB, pC, pD]; rfl
   refine ord_read rfl rfl rfl rfl rfl (fun _ _ _ _ h => h) ?_ ?_ ?_ ?_ ?_
   rotate_left 2
   ·intro w' hg; have q := hg.cell c4 (fun h => h); go_simp; with_reducible rfl
   ·simp only [Act.put, pB, pC, pD]; rfl
   iterate 3
    refine ord_pure rfl rfl rfl rfl rfl (fun _ _ _ _ h => h) ?_ ?_ ?_ ?_ ?_
    rotate_left 2
    ·intro w'; go_simp; with_reducible rfl
    ·simp only [Act.put, pB, pC, pD]; rfl
   refine ord_read rfl rfl rfl rfl rfl (fun _ _ _ _ h => h) ?_ ?_ ?_ ?_ ?_
   rotate_left 2
   ·intro w' hg; have q := hg.cell c5 (fun h => h); go_simp; with_reducible rfl
   ·simp only [Act.put, pB, pC, pD]; rfl
   iterate 2
    refine ord_pure rfl rfl rfl rfl rfl (fun _ _ _ _ h => h) ?_ ?_ ?_ ?_ ?_
    rotate_left 2
    ·intro w'; go_simp; with_reducible rfl
    ·simp only [Act.put, pB, pC, pD]; rfl
   refine ord_set rfl rfl rfl rfl ?_ ?_ ?_ ?_ ?_
   rotate_left 2
   ·go_simp; with_reducible rfl
   ·simp only [Act.put, pB, pC, pD]; rfl
   refine ord_nil ?_
   replace HN := LH (HN.out.later (Keep.refl NoB wr).drew)
   generalize wr.drew = wd at HN ⊢
   clear hw c0 c1 c2 c3 c4 c5 c6 c7 c8 c9 c10 c11 c12 c13 c14 cf
   have hgl := (gE HN.out.cell).1
   have hgB : g < wd.heap.size := hgl
   have hB4 : ∀ k, ((Value.slice Ac rows.length cc).ownBlock = some k ∨ Gc k) → k < wd.heap.size := fun k hk => by
    rcases hk with e | e
    ·exact (HN.out.own.lt k e).2
    ·exact HN.out.rws.lt e
   have hds : wd.drew.heap.size = wd.heap.size := rfl
   go_wp2
   refine region_cut NoB [0, 1, 2, 4] [] [] [8, 11] #[true, true, true, false, true, false, false, false, false, false, false, false] 8 rfl (by kernel_rfl) ?_
   iterate 4
    refine ord_pure rfl rfl rfl rfl rfl (fun _ _ _ _ h => h) ?_ ?_ ?_ ?_ ?_
    rotate_left 2
    ·intro w'; go_simp; with_reducible rfl
    ·simp only [Act.put, pB, pC, pD]; rfl
   refine ord_nil ?_
   refine any_fork 3 5 #[true, true, true, true, true, false, false, false, false, false, false, false] #[true, true, true, false, true, true, false, false, false, false, false, false] (by kernel_rfl) ?_ ?_
   ·
    refine ord_call rfl rfl rfl rfl rfl Tryz.func66 rfl rfl [.int .i64 N] rfl ?_
    refine (bmake_calls N (by omega) _).mono ?_
    rintro e w9 ⟨Aa, ca, rfl, hg9, hoA⟩
    refine ⟨_, rfl, fun _ => hg9, ?_⟩
    simp only [Act.put, pB, pC, pD]
    refine ord_nil ?_
    have hs9 := hg9.size
    have hN9 := (HN.out.later (Keep.refl NoB wd).drew).later hg9
    have hbA : ∀ k, (Value.slice Aa (makeB N).length ca).ownBlock = some k → k < w9.heap.size ∧ wd.heap.size ≤ k := fun k hk => ⟨(hoA.lt k hk).2, (hoA.lt k hk).1⟩
    refine any_cut (n := 5) [6, 7] [] [] #[true, true, true, true, true, false, true, true, false, false, false, false] (by kernel_rfl) ?_
    iterate 2
     refine ord_pure rfl rfl rfl rfl rfl (fun _ _ _ _ h => h) ?_ ?_ ?_ ?_ ?_
     rotate_left 2
     ·intro w'; go_simp; with_reducible rfl
     ·simp only [Act.put, pB, pC, pD]; rfl
    refine ord_nil ?_
    refine any_fork 5 8 #[true, true, true, true, true, true, true, true, false, false, false, false] #[true, true, true, true, true, false, true, true, true, false, false, false] (by kernel_rfl) ?_ ?_
    ·
     obtain ⟨wt, hmk, hot, hgt⟩ := make_ints w9 N hNb
     refine ord_do rfl rfl rfl rfl _ wt _ (by have q := hmk; go_simp; with_reducible rfl) (fun _ => hgt) (by simp only [Act.put, pB, pC, pD]; rfl) ?_
     refine ord_nil ?_
     have hNt := hN9.later hgt
     refine any_ord [8, 9, 10, 11] [8, 11] [] (by kernel_rfl) ?_
     have hcc := hNt.cell
     have sc := (cells15 hcc).2.2.2.2.2.2.2.2.2.2.2.2.1
     have sf := frozen0 12 hcc
     refine ord_put rfl rfl rfl rfl ?_ ?_ (fun h => absurd (by simp) h) ?_
     rotate_left
     ·go_simp; with_reducible rfl
     clear sc sf hcc
     have hNa := hNt.acked (.slice Aa (makeB N).length ca)
     iterate 2
      refine ord_pure rfl rfl rfl rfl rfl (fun _ _ _ _ h => h) ?_ ?_ ?_ ?_ ?_
      rotate_left 2
      ·intro w'; go_simp; with_reducible rfl
      ·simp only [Act.put, pB, pC, pD]; rfl
     have hcc := hNa.cell
     have sc := (cells15 hcc).2.2.2.2.2.2.2.2.2.2.2.2.2.1
     have sf := frozen0 13 hcc
     refine ord_put rfl rfl rfl rfl ?_ ?_ (fun h => absurd (by simp) h) ?_
     rotate_left
     ·go_simp; with_reducible rfl
     clear sc sf hcc
     refine ord_nil ?_
     have hfin := (hNa.tries (.slice (some ⟨w9.heap.size, 0, none⟩) N N)).done HOK.out HRN.out HNE.out (own_keep (own_keep (own_keep hoA hgt (fun _ _ h => h)) (keep_put g 12 _ _) (fun k hk e => by have := (hbA k hk).2; omega)) (keep_put g 13 _ _) (fun k hk e => by have := (hbA k hk).2; omega)) (own_base0 (own_keep (own_keep hot (keep_put g 12 _ _) (fun k hk e => by have := (hot.lt k hk).1; omega)) (keep_put g 13 _ _) (fun k hk e => by have := (hot.lt k hk).1; omega))) (fun e => by have := (hbA _ e).1; omega) (fun k hk => (hbA k hk).2) (B := wd.heap.size) (by omega) hgB hB4
     obtain ⟨p, F, G, hS, hgw, hsf, hgk⟩ := hfin
     have HS := LH hS
     have HGW := LH hgw
     have HSF := LH hsf
     have HGK := LH hgk
     clear hS hgw hsf hgk hg9 hgt hmk hot hoA hgl hB4 hgB HN
     go_wp2
     go_ret2
     exact ⟨g, p, F, G, rfl, HS.out, HGW.out, HSF.out, HGK.out⟩
    ·
     have hcc := hN9.cell
     have sc := (cells15 hcc).2.2.2.2.2.2.2.2.2.2.2.2.1
     have sf := frozen0 12 hcc
     refine ord_put rfl rfl rfl rfl ?_ ?_ (fun h => absurd (by simp) h) ?_
     rotate_left
     ·go_simp; with_reducible rfl
     clear sc sf hcc
     refine ord_nil ?_
     have hNa := hN9.acked (.slice Aa (makeB N).length ca)
     have hsa : (w9.setCell ⟨g, 12, none⟩ (.slice Aa (makeB N).length ca)).heap.size = w9.heap.size := by simp
     refine any_ord [5, 9, 10, 11] [5, 11] [] (by kernel_rfl) ?_
     obtain ⟨wt, hmk, hot, hgt⟩ := make_ints (w9.setCell ⟨g, 12, none⟩ (.slice Aa (makeB N).length ca)) N hNb
     rw [hsa] at hmk hot
     refine ord_do rfl rfl rfl rfl _ wt _ (by have q := hmk; go_simp; with_reducible rfl) (fun _ => hgt) (by simp only [Act.put, pB, pC, pD]; rfl) ?_
     have hNt := hNa.later hgt
     iterate 2
      refine ord_pure rfl rfl rfl rfl rfl (fun _ _ _ _ h => h) ?_ ?_ ?_ ?_ ?_
      rotate_left 2
      ·intro w'; go_simp; with_reducible rfl
      ·simp only [Act.put, pB, pC, pD]; rfl
     have hcc := hNt.cell
     have sc := (cells15 hcc).2.2.2.2.2.2.2.2.2.2.2.2.2.1
     have sf := frozen0 13 hcc
     refine ord_put rfl rfl rfl rfl ?_ ?_ (fun h => absurd (by simp) h) ?_
     rotate_left
     ·go_simp; with_reducible rfl
     clear sc sf hcc
     refine ord_nil ?_
     have hfin := (hNt.tries _).done HOK.out HRN.out HNE.out (own_keep (own_keep (own_keep hoA (keep_put g 12 _ _) (fun k hk e => by have := (hbA k hk).2; omega)) hgt (fun _ _ h => h)) (keep_put g 13 _ _) (fun k hk e => by have := (hbA k hk).2; omega)) (own_base0 (own_keep hot (keep_put g 13 _ _) (fun k hk e => by have := (hot.lt k hk).1; omega))) (fun e => by have := (hbA _ e).1; omega) (fun k hk => (hbA k hk).2) (B := wd.heap.size) (by omega) hgB hB4
     obtain ⟨p, F, G, hS, hgw, hsf, hgk⟩ := hfin
     have HS := LH hS
     have HGW := LH hgw
     have HSF := LH hsf
     have HGK := LH hgk
     clear hS hgw hsf hgk hg9 hgt hmk hot hoA hgl hB4 hgB HN
     go_wp2
     go_ret2
     exact ⟨g, p, F, G, rfl, HS.out, HGW.out, HSF.out, HGK.out⟩
   ·
    obtain ⟨wt, hmk, hot, hgt⟩ := make_ints wd.drew N hNb
    refine ord_do rfl rfl rfl rfl _ wt _ (by have q := hmk; go_simp; with_reducible rfl) (fun _ => hgt) (by simp only [Act.put, pB, pC, pD]; rfl) ?_
    refine ord_nil ?_
    have hst := hgt.size
    refine any_ord [3, 6, 7, 8, 9, 10, 11] [3, 8, 11] [] (by kernel_rfl) ?_
    refine ord_call rfl rfl rfl rfl rfl Tryz.func66 rfl rfl [.int .i64 N] rfl ?_
    refine (bmake_calls N (by omega) _).mono ?_
    rintro e w9 ⟨Aa, ca, rfl, hg9, hoA⟩
    refine ⟨_, rfl, fun _ => hg9, ?_⟩
    simp only [Act.put, pB, pC, pD]
    have hNt := ((HN.out.later (Keep.refl NoB wd).drew).later hgt).later hg9
    have hbA : ∀ k, (Value.slice Aa (makeB N).length ca).ownBlock = some k → wt.heap.size ≤ k := fun k hk => (hoA.lt k hk).1
    have htl : wd.drew.heap.size < wt.heap.size := (hot.lt _ rfl).2
    iterate 2
     refine ord_pure rfl rfl rfl rfl rfl (fun _ _ _ _ h => h) ?_ ?_ ?_ ?_ ?_
     rotate_left 2
     ·intro w'; go_simp; with_reducible rfl
     ·simp only [Act.put, pB, pC, pD]; rfl
    have hcc := hNt.cell
    have sc := (cells15 hcc).2.2.2.2.2.2.2.2.2.2.2.2.1
    have sf := frozen0 12 hcc
    refine ord_put rfl rfl rfl rfl ?_ ?_ (fun h => absurd (by simp) h) ?_
    rotate_left
    ·go_simp; with_reducible rfl
    clear sc sf hcc
    have hNa := hNt.acked (.slice Aa (makeB N).length ca)
    iterate 2
     refine ord_pure rfl rfl rfl rfl rfl (fun _ _ _ _ h => h) ?_ ?_ ?_ ?_ ?_
     rotate_left 2
     ·intro w'; go_simp; with_reducible rfl
     ·simp only [Act.put, pB, pC, pD]; rfl
    have hcc := hNa.cell
    have sc := (cells15 hcc).2.2.2.2.2.2.2.2.2.2.2.2.2.1
    have sf := frozen0 13 hcc
    refine ord_put rfl rfl rfl rfl ?_ ?_ (fun h => absurd (by simp) h) ?_
    rotate_left
    ·go_simp; with_reducible rfl
    clear sc sf hcc
    refine ord_nil ?_
    have hfin := (hNa.tries (.slice (some ⟨wd.drew.heap.size, 0, none⟩) N N)).done HOK.out HRN.out HNE.out (own_keep (own_keep hoA (keep_put g 12 _ _) (fun k hk e => by have := hbA k hk; omega)) (keep_put g 13 _ _) (fun k hk e => by have := hbA k hk; omega)) (own_base0 (own_keep (own_keep (own_keep hot hg9 (fun _ _ h => h)) (keep_put g 12 _ _) (fun k hk e => by have := (hot.lt k hk).1; omega)) (keep_put g 13 _ _) (fun k hk e => by have := (hot.lt k hk).1; omega))) (fun e => by have h9 : wt.heap.size ≤ wd.drew.heap.size := hbA _ e; omega) (fun k hk => by have := hbA k hk; omega) (B := wd.heap.size) (by omega) hgB hB4
    obtain ⟨p, F, G, hS, hgw, hsf, hgk⟩ := hfin
    have HS := LH hS
    have HGW := LH hgw
    have HSF := LH hsf
    have HGK := LH hgk
    clear hS hgw hsf hgk hg9 hgt hmk hot hoA hgl hB4 hgB HN
    go_wp2
    go_ret2
    exact ⟨g, p, F, G, rfl, HS.out, HGW.out, HSF.out, HGK.out⟩
theorem config_calls (k j : Int) (w : World) (hk : 0 ≤ k ∧ k ≤ 255) (hj : 0 ≤ j ∧ j ≤ 255) :
    Calls Tryz.prog 14 #[.int .u8 k, .int .u8 j] w fun e w' => e = .returned (.agg #[.int .i64 (1 + k % 5), .int .i64 (1 + k / 16), .int .i64 (1 + j % 40), .int .i64 1048576]) ∧ Grow w w' := by
 have hw1 : IntKind.i64.wrap (1 + k % 5) = 1 + k % 5 := IntWalk.i64_in _ (by omega)
 have hw2 : IntKind.i64.wrap (1 + k / 16) = 1 + k / 16 := IntWalk.i64_in _ (by omega)
 have hw3 : IntKind.i64.wrap (1 + j % 40) = 1 + j % 40 := IntWalk.i64_in _ (by omega)
 have hb1 : 0 ≤ k % 5 ∧ k % 5 ≤ 4 := by omega
 have hb2 : 0 ≤ k / 16 ∧ k / 16 ≤ 15 := by omega
 have hb3 : 0 ≤ j % 40 ∧ j % 40 ≤ 39 := by omega
 obtain ⟨k0, k1⟩ := hk
 obtain ⟨j0, j1⟩ := hj
 go_enter Tryz.func14, Tryz.ntmps14
 go_wp2
 refine bodyPost_ret (v := .agg #[.int .i64 (1 + k % 5), .int .i64 (1 + k / 16), .int .i64 (1 + j % 40), .int .i64 1048576]) ?_ rfl ⟨rfl, (Keep.refl NoB w).alloc _⟩
 rw [results_cell1 rfl]; go_simp
theorem config_ok (k j : Int) (hk : 0 ≤ k ∧ k ≤ 255) (hj : 0 ≤ j ∧ j ≤ 255) : OkC (1 + k % 5) (1 + k / 16) (1 + j % 40) 1048576 := by constructor <;> omega
theorem gcells_get : ∀ (rows : List GRow) (i j : Nat) (h : i < rows.length), j < 7 → (gcells rows)[7 * i + j]? = (rows[i].1.cs rows[i].2.1 rows[i].2.2)[j]?
 | r :: rs, 0, j, h, hj => by
  have hl : (r.1.cs r.2.1 r.2.2).length = 7 := rfl
  show (r.1.cs r.2.1 r.2.2 ++ gcells rs)[7 * 0 + j]? = _
  rw [List.getElem?_append_left (by omega)]
  simp
 | r :: rs, i + 1, j, h, hj => by
  have hl : (r.1.cs r.2.1 r.2.2).length = 7 := rfl
  show (r.1.cs r.2.1 r.2.2 ++ gcells rs)[7 * (i + 1) + j]? = _
  rw [List.getElem?_append_right (by omega), hl, show 7 * (i + 1) + j - 7 = 7 * i + j from by omega]
  exact gcells_get rs i j (by simpa using h) hj
theorem GOut.at_ {base : Nat} {rows : List GRow} {A : Option Addr} {c : Nat} {Gr : Nat → Prop} {w : World} (h : GOut base rows (.slice A rows.length c) Gr w) (i : Nat) (hi : i < rows.length) :
    ∃ r, A = some ⟨r, 0, none⟩ ∧ w.cell? ⟨r, 7 * i, none⟩ = some (.int .i64 rows[i].1.kind) ∧ w.cell? ⟨r, 7 * i + 1, none⟩ = some (.int .u64 rows[i].1.session) ∧ w.cell? ⟨r, 7 * i + 2, none⟩ = some (.int .i64 rows[i].1.index) ∧ w.cell? ⟨r, 7 * i + 3, none⟩ = some (.int .i64 rows[i].1.of) ∧ w.cell? ⟨r, 7 * i + 4, none⟩ = some (.int .u32 (rows[i].1.sum : Nat)) ∧ w.cell? ⟨r, 7 * i + 5, none⟩ = some rows[i].2.1 ∧ w.cell? ⟨r, 7 * i + 6, none⟩ = some rows[i].2.2 := by
 obtain ⟨r, c2, e, _, _, hcs⟩ := own_cells h.own (by omega)
 injection e with e1
 refine ⟨r, e1, ?_⟩
 have hq : ∀ j u, j < 7 → (rows[i].1.cs rows[i].2.1 rows[i].2.2)[j]? = some u → w.cell? ⟨r, 7 * i + j, none⟩ = some u := fun j u hj hu => by
  have := hcs (7 * i + j) u (by rw [gcells_get rows i j hi hj]; exact hu)
  simpa using this
 exact ⟨hq 0 _ (by omega) rfl, hq 1 _ (by omega) rfl, hq 2 _ (by omega) rfl, hq 3 _ (by omega) rfl, hq 4 _ (by omega) rfl, hq 5 _ (by omega) rfl, hq 6 _ (by omega) rfl⟩
theorem DueOf.none {l ds : List KT} {now : Int} (h : DueOf l now ds) (hl : ∀ x, x ∈ l → now < x.2) : ds = [] := by
 cases ds with
 | nil => rfl
 | cons x r => have := (h.mem x).1 (List.mem_cons_self ..); have := hl x this.1; omega
theorem DueOf.one {ds : List KT} {now : Int} {x : KT} (h : DueOf [x] now ds) (hx : x.2 ≤ now) : ds = [x] := by
 refine h.unique ⟨by simp, by simp [ND], fun y => ?_, ?_⟩
 ·constructor
  ·intro hy; have := List.mem_singleton.1 hy; subst this; exact ⟨hy, hx⟩
  ·exact fun hy => hy.1
 ·have : decide (now < x.2) = false := by simpa using hx
  simp [restL, List.filter_cons, this]
def kD : Snd := newD 5 [[0]] 1 1 3 0
def kD1 : Snd := (tickL 0 [(0, 0)] { openD 0 kD with tm := restL (openD 0 kD).tm 0 } []).1
def kD2 : Snd := (tickL 0 [] { openD 0 kD1 with tm := restL (openD 0 kD1).tm 0 } []).1
theorem k_check : checkP [[0]] = 0 := by decide +kernel
theorem k_check2 : checkP [] = 1 := by decide +kernel
theorem k_tm : (openD 0 kD).tm = [(0, 0)] := by decide +kernel
theorem k_out : (tickL 0 [(0, 0)] { openD 0 kD with tm := restL (openD 0 kD).tm 0 } []).2.map (·.kind) = [1] := by decide +kernel
theorem k_ph1 : kD1.phase = 1 := by decide +kernel
theorem k_tm1 : (openD 0 kD1).tm = [(0, 1)] := by decide +kernel
theorem k_out2 : (tickL 0 [] { openD 0 kD1 with tm := restL (openD 0 kD1).tm 0 } []).2.map (·.kind) = [] := by decide +kernel
theorem k_ph2 : kD2.phase = 1 := by decide +kernel
end Go.Proofs.YtfkcpaahdlkcdaaGreat

import Derived.Test.YtfkcpaahdlkcdaaGreatRRecvQuota05
import Derived.Test.YtfkcpaahdlkcdaaGreatRRecvQuota20
import Derived.Maps.RangeWalk
set_option linter.unusedSimpArgs false
set_option linter.unusedVariables false
set_option maxRecDepth 100000
set_option maxHeartbeats 16000000
namespace Go.Proofs.YtfkcpaahdlkcdaaGreat
open Go.RowKit
theorem Rv0.again {x : RX} {g st : Nat} {rc rc' : RC} {k : KS} {Gk F F' : Nat → Prop} {w w' : World} (h : Rv0 x g st rc k Gk F w) (hk : Keep (fun j => j = g) w w') (hc : RCell g rc' w') (e1 : rc'.st = rc.st) (e2 : rc'.quota = rc.quota) (e3 : rc'.part = rc.part) (e4 : rc'.err = rc.err) (hF : ∀ j, F j → F' j) : Rv0 x g st rc' k Gk F' w' :=
 ⟨hc, e1.trans h.st, e2.trans h.quota, h.kat.keep hk (fun j hj e => h.gk (by rw [← e]; exact hj)) (fun j hj e => h.gg (by rw [← e]; exact hj)), h.gk, h.gg, hF _ h.fg, fun j hj => hF j (h.fk j hj), fun j hj => hF j (h.fG j hj), h.n, h.f0, h.lo, e3.trans h.part, e4.trans h.err⟩
theorem rv_heard {x : RX} (hx : x.Ok) {g st : Nat} {rc rc0 rc' : RC} {k : KS} {Gk F : Nat → Prop} {w w' : World} (h : Rv0 x g st rc k Gk F w) (hF : ∀ j, F j → j < w.heap.size) {hs : Nat → Bool} {i : Nat} (hi : i < x.P) (hh : ∀ j, j < x.P → rc0.h j = hs j) (hno : allH x (fun j => j == i || hs j) = false) {s : Sl} (hrc : rc' = (rc0.setH i).setZ i s)
    (e1 : rc0.st = rc.st) (e2 : rc0.quota = rc.quota) (e3 : rc0.part = rc.part) (e4 : rc0.phase = 1) (e5 : rc0.of = (x.P : Int)) (e6 : rc0.session = x.s) (e7 : rc0.sum = x.m) (e8 : rc0.err = rc.err) {G' : Nat → Prop} (hc : RCell g rc' w') (hH : Hear rc' x.pgs G' w') (hk : Keep (fun j => j = g) w w') (hG : ∀ j, G' j → (F j ∧ ¬ KF st k j ∧ j ≠ g) ∨ w.heap.size ≤ j) :
    ∃ F', RvI x g st (.hear (fun j => j == i || hs j)) F' w' ∧ (∀ j, F' j → F j ∨ w.heap.size ≤ j) ∧ ∀ j, F' j → j < w'.heap.size := by
 have h4 := hx.small.2.1
 have hr := RC.set_rest rc0 i (by omega) s
 rw [← hrc] at hr
 have hsm := h.small
 have hg := h.small.1
 refine ⟨fun j => F j ∨ G' j, ⟨rc', k, Gk, G', h.again hk hc (by rw [hr]; exact e1) (by rw [hr]; exact e2) (by rw [hr]; exact e3) (by rw [hr]; exact e8) (fun j hj => .inl hj), by rw [hr]; exact e4, by rw [hr]; exact e5, by rw [hr]; exact e6, by rw [hr]; exact e7, hH, fun e => ?_, fun j hj => ⟨.inr hj, fun e => ?_⟩, fun j hj => ?_, hno⟩, fun j hj => hj.elim .inl (fun e => (hG j e).imp (fun h => h.1) id), fun j hj => hj.elim (fun e => Nat.lt_of_lt_of_le (hF j e) hk.size) (hH.1 j)⟩
 ·rcases hG g e with e2 | e2
  ·exact e2.2.2 rfl
  ·omega
 ·rcases hG j hj with e2 | e2
  ·exact e2.2.1 e
  ·have := hsm.2.1 j e; omega
 ·rw [hrc, (RC.set_h rc0 i (by omega) s j (by omega)).1, hh j hj]
  by_cases e : j = i
  ·simp [e]
  ·simp [e]
theorem rv_begun {x : RX} (hx : x.Ok) {g st : Nat} {rc rc' : RC} {k : KS} {Gk F : Nat → Prop} {w w' : World} (h : Rv0 x g st rc k Gk F w) (hF : ∀ j, F j → j < w.heap.size) {b : Nat} {p : PP} {Gp : Nat → Prop} {A : Option Addr} {c m : Nat} {S : Nat → Prop}
    (hc : RCell g (rc'.begin ⟨b, 0, none⟩ x.s x.m) w') (e1 : rc'.st = rc.st) (e2 : rc'.quota = rc.quota) (e3 : rc'.err = rc.err) (hP : PAt b p ⟨x.s, szs x.a, x.m, List.replicate (szs x.a).sum.toNat 0, makeB (chunksN (szs x.a))⟩ Gp w') (hK : KAt rc.st ((k.clear m).step A c) NoB w') (hk : Keep S w w') (hS : ∀ j, S j → F j)
    (hb : w.heap.size ≤ b) (hw : w.heap.size ≤ p.wb) (hG : ∀ j, Gp j → w.heap.size ≤ j) (hKF : ∀ j, KF rc.st ((k.clear m).step A c) j → (KF rc.st k j ∨ w.heap.size ≤ j) ∧ j ≠ b ∧ j ≠ p.wb ∧ ¬ Gp j) :
    ∃ F', RvI x g st (.part (makeB x.Q)) F' w' ∧ Keep F w w' ∧ (∀ j, F' j → F j ∨ w.heap.size ≤ j) ∧ ∀ j, F' j → j < w'.heap.size := by
 have hsm := h.small
 have hsx := hx.small
 have hst : (rc'.begin ⟨b, 0, none⟩ x.s x.m).st = st := e1.trans h.st
 have hpd : parD x (makeB x.Q) = ⟨x.s, szs x.a, x.m, List.replicate (szs x.a).sum.toNat 0, makeB (chunksN (szs x.a))⟩ := by
  unfold parD
  rw [wordsK_none, ← hsx.2.2.2.2.2.1]
  rfl
 have hbo := BitsOk.make x.Q
 have hp0 : popB (makeB x.Q) = 0 := by
  rw [hbo.pop, List.filter_eq_nil_iff.2 (fun i _ => by rw [getB_make]; simp)]
  rfl
 have hKs := hK.small
 have hPl := hP.lt
 have hat : RcvAt g (rc'.begin ⟨b, 0, none⟩ x.s x.m) b p (parD x (makeB x.Q)) Gp ((k.clear m).step A c) NoB w' := by
  rw [hpd]
  refine ⟨hc, rfl, hP, by rw [hst, ← h.st]; exact hK, ⟨by omega, by omega, fun e => by have := hG g e; omega, fun e => ?_, fun e => e⟩, fun j hj => ?_, ⟨fun e => e, fun e => e⟩⟩
  ·rw [hst, ← h.st] at e
   rcases (hKF g e).1 with e2 | e2
   ·rw [h.st] at e2; exact h.gk e2
   ·omega
  ·rw [hst, ← h.st] at hj
   exact (hKF j hj).2
 refine ⟨fun j => RF g st b p ((k.clear m).step A c) j ∨ Gp j, ⟨_, b, p, Gp, _, NoB, ⟨hat, hst, e2.trans h.quota, rfl, rfl, e3.trans h.err, hbo, by show (k.clear m).lo.n + 1 = _; rw [hp0]; show k.lo.n + 1 = _; rw [h.lo], by rw [hp0]; rfl, fun j hj => .inl hj, fun j hj => .inr hj, fun j hj => hj.elim⟩, rfl, by rw [hp0]; omega⟩, hk.mono hS, fun j hj => ?_, fun j hj => ?_⟩
 ·rcases hj with (e | e | e | e) | e
  ·rw [e]; exact .inl h.fg
  ·exact .inr (by omega)
  ·exact .inr (by omega)
  ·rw [← h.st] at e
   exact (hKF j e).1.imp (fun e => h.fk j (by rw [← h.st]; exact e)) id
  ·exact .inr (hG j e)
 ·rcases hj with (e | e | e | e) | e
  ·rw [e]; exact hc.lt
  ·rw [e]; exact hPl.1
  ·rw [e]; exact hPl.2
  ·rw [← h.st] at e; exact hKs j e
  ·exact hP.ro.1 j e
theorem allH_one (x : RX) (i : Nat) : allH x (fun j => j == i || false) = allH x (fun j => j == i) := by simp [allH]
theorem rv_offer_idle {x : RX} (hx : x.Ok) {g st : Nat} {F : Nat → Prop} {w : World} (hF : ∀ j, F j → j < w.heap.size) (i : Nat) (hi : i < x.P) (A1 : Option Addr) (c1 : Nat) {FS : Nat → Prop} (hS : Foot (SliceR 1 (.slice A1 (pageP (szs x.a) i).length c1) (pageP (szs x.a) i).length (ints (pageP (szs x.a) i))) w FS) (hFS : ∀ j, FS j → ¬ F j) (h : RvI x g st .idle F w) :
    Calls Tryz.prog 39 #[.pointer (some ⟨g, 0, none⟩), .agg #[.int .i64 1, .int .u64 x.s, .int .i64 i, .int .i64 x.P, .int .u32 (x.m : Nat), .slice A1 (pageP (szs x.a) i).length c1, .slice none 0 0]] w fun e w' => ∃ v, e = .returned v ∧ RvStep x g st (offS x .idle i) (offK x .idle i) F w v w' := by
 obtain ⟨rc, k, Gk, h0, hp⟩ := h
 have h4 := hx.small.2.1
 have hpg := hx.pages
 have hlen := x.pgs_length
 have hil : i < x.pgs.length := by omega
 have hpi := x.pgs_get i hil
 have hl4 : (x.pgs[i]'hil).length ≤ 4 := by rw [hpi]; exact pageP_length _ _
 refine rtake_offer h0.cell _ _ _ _ _ _ _ _ _ _ (fun v w' => RvStep x g st (offS x .idle i) (offK x .idle i) F w v w') (by rw [hp]; decide) (fun w1 hg1 => ?_)
 have h1 := h0.keep hg1 (fun _ _ h => h)
 have hF1 : ∀ j, F j → j < w1.heap.size := fun j hj => Nat.lt_of_lt_of_le (hF j hj) hg1.size
 have hS1 := hS.grow hg1
 have hsg : ∀ w', Keep (fun k => k = g) w1 w' → SliceR 1 (.slice A1 (pageP (szs x.a) i).length c1) (pageP (szs x.a) i).length (ints (pageP (szs x.a) i)) w' := fun w' hk => (hS1.keep hk (fun j hj e => hFS j hj (by rw [e]; exact h0.fg))).now
 have hw1 := hg1.size
 rw [← hpi] at hS1 hsg
 rw [← hlen, ← hpi]
 have hh0 : ∀ j, j < x.P → (rc.hearing x.pgs.length x.s x.m).h j = false := fun j _ => by unfold RC.h RC.hearing; split <;> rfl
 have hcon := heard_all hx (rc := rc.hearing x.pgs.length x.s x.m) (hs := fun _ => false) hi hh0
 rw [allH_one] at hcon
 rw [← hlen] at hcon
 cases hall : allH x (fun j => j == i) with
 | false =>
  rw [hall] at hcon
  refine (roffer_more0 h1.cell x.s x.m x.pgs (by omega) hp h1.part i hil A1 c1 hS1.now hl4 hsg hcon).mono ?_
  rintro e w' ⟨rfl, A, c, G', hr, hH, hk, hG⟩
  have hoff : offS x .idle i = .hear (fun j => j == i || false) := by simp [offS, hearS, hall]
  obtain ⟨F', h9, hF9, hF10⟩ := rv_heard hx h1 hF1 hi hh0 (by rw [allH_one]; exact hall) (rc0 := rc.hearing x.pgs.length x.s x.m) rfl rfl rfl rfl rfl (by rw [← hlen]; rfl) rfl rfl rfl hr hH hk (fun j hj => (hG j hj).elim (fun h => h.elim) .inr)
  refine ⟨_, rfl, by show RvOut (failK (offS x .idle i)) _ _ _; rw [hoff]; rfl, F', by rw [hoff]; exact h9, (hg1.mono (T := F) (fun _ h => h.elim)).trans hk (fun j e => .inl (by rw [e]; exact h0.fg)), fun j hj => (hF9 j hj).imp id (fun h => Nat.le_trans hw1 h), hF10⟩
 | true =>
  rw [hall] at hcon
  by_cases hq : x.q < 8 * (szs x.a).sum
  ·refine (roffer_quota0 h1.cell x.s x.m x.pgs (by omega) hp h1.part i hil A1 c1 hS1.now hl4 hsg (szs x.a) hpg hcon (by rw [h1.quota]; exact hq)).mono ?_
   rintro e w' ⟨b, rc', rfl, hO, hb, hr, hst, hk⟩
   have hoff : offS x .idle i = .fail 31 := by simp [offS, hearS, hall, hq]
   refine ⟨_, rfl, by show RvOut (failK (offS x .idle i)) _ _ _; rw [hoff]; exact ⟨b, _, _, _, rfl, hO, Nat.le_trans hw1 hb⟩, F, by
    rw [hoff]
    exact ⟨rc', hr, hst.trans h1.st, h1.fg, by decide, fun _ => ⟨hq, k, Gk, h1.kat.keep hk (fun j hj e => h1.gk (by rw [← e]; exact hj)) (fun j hj e => h1.gg (by rw [← e]; exact hj)), h1.f0, h1.fk, h1.fG⟩⟩, (hg1.mono (T := F) (fun _ h => h.elim)).trans hk (fun j e => .inl (by rw [e]; exact h0.fg)), fun j hj => .inl hj, fun j hj => Nat.lt_of_lt_of_le (hF1 j hj) hk.size⟩
  ·refine (roffer_all0 h1.cell x.s x.m x.pgs (by omega) hp h1.part i hil A1 c1 hS1.now hl4 hsg (szs x.a) hpg hcon (by rw [h1.quota]; omega) ⟨hx.s0, hx.s1⟩ hx.m (k := k) (Gk := Gk) (by rw [h1.st]; exact h1.kat) h1.gg (by rw [h1.lo]; omega) (by rw [h1.st]; exact h1.gk)).mono ?_
   rintro e w' ⟨rfl, rc', b, p, Gp, A, c, m, hr, hst, hqu, hrs, her, hP, hK, hk, hb, hw, hG, hKF⟩
   have hoff : offS x .idle i = .part (makeB x.Q) := by simp [offS, hearS, hall, hq]
   obtain ⟨F', h9, hk9, hF9, hF10⟩ := rv_begun hx h1 hF1 hr hst hqu her hP hK hk (fun j hj => hj.elim (fun e => by rw [e]; exact h1.fg) (fun e => h1.fk j (by rw [← h1.st]; exact e))) hb hw hG hKF
   exact ⟨_, rfl, by show RvOut (failK (offS x .idle i)) _ _ _; rw [hoff]; rfl, F', by rw [hoff]; exact h9, (hg1.mono (T := F) (fun _ h => h.elim)).trans hk9 (fun j e => .inl e), fun j hj => (hF9 j hj).imp id (fun h => Nat.le_trans hw1 h), hF10⟩
theorem rv_offer_hear {x : RX} (hx : x.Ok) {g st : Nat} {F : Nat → Prop} {w : World} (hF : ∀ j, F j → j < w.heap.size) (i : Nat) (hi : i < x.P) (A1 : Option Addr) (c1 : Nat) {FS : Nat → Prop} (hS : Foot (SliceR 1 (.slice A1 (pageP (szs x.a) i).length c1) (pageP (szs x.a) i).length (ints (pageP (szs x.a) i))) w FS) (hFS : ∀ j, FS j → ¬ F j) {hs : Nat → Bool} (h : RvI x g st (.hear hs) F w) :
    Calls Tryz.prog 39 #[.pointer (some ⟨g, 0, none⟩), .agg #[.int .i64 1, .int .u64 x.s, .int .i64 i, .int .i64 x.P, .int .u32 (x.m : Nat), .slice A1 (pageP (szs x.a) i).length c1, .slice none 0 0]] w fun e w' => ∃ v, e = .returned v ∧ RvStep x g st (offS x (.hear hs) i) (offK x (.hear hs) i) F w v w' := by
 have hI := h
 obtain ⟨rc, k, Gk, G, h0, hp, hof, hs_, hm_, hH0, hgG, hG0, hh0, hal⟩ := h
 have h4 := hx.small.2.1
 have hpg := hx.pages
 have hlen := x.pgs_length
 have hil : i < x.pgs.length := by omega
 have hpi := x.pgs_get i hil
 have hl4 : (x.pgs[i]'hil).length ≤ 4 := by rw [hpi]; exact pageP_length _ _
 refine rtake_offer h0.cell _ _ _ _ _ _ _ _ _ _ (fun v w' => RvStep x g st (offS x (.hear hs) i) (offK x (.hear hs) i) F w v w') (by rw [hp]; decide) (fun w1 hg1 => ?_)
 have h1 := h0.keep hg1 (fun _ _ h => h)
 have hF1 : ∀ j, F j → j < w1.heap.size := fun j hj => Nat.lt_of_lt_of_le (hF j hj) hg1.size
 have hS1 := hS.grow hg1
 have hsg : ∀ w', Keep (fun k => k = g) w1 w' → SliceR 1 (.slice A1 (pageP (szs x.a) i).length c1) (pageP (szs x.a) i).length (ints (pageP (szs x.a) i)) w' := fun w' hk => (hS1.keep hk (fun j hj e => hFS j hj (by rw [e]; exact h0.fg))).now
 have hw1 := hg1.size
 have hH1 := hH0.keep hg1 (fun _ _ h => h)
 by_cases hhi : hs i = true
 ·have hoff : offS x (.hear hs) i = .hear hs := by simp [offS, hhi]
  have hok : offK x (.hear hs) i = none := by show failK (offS x (.hear hs) i) = none; rw [hoff]; rfl
  rw [hoff, hok, ← hs_, ← hm_]
  refine (roffer_twice h1.cell hp h1.part x.P i (by rw [hof]) (by omega) h4 hi (by rw [hh0 i hi]; exact hhi) A1 none _ c1 0 0).mono ?_
  rintro e w' ⟨rfl, hg⟩
  exact ⟨_, rfl, RvStep.same hI hF (hg1.grow hg)⟩
 have hhf : hs i = false := by simpa using hhi
 have hrh : rc.h i = false := by rw [hh0 i hi]; exact hhf
 rw [← hpi] at hS1 hsg
 rw [← hlen, ← hpi]
 have hcon := heard_all hx (rc := rc) (hs := hs) hi hh0
 rw [← hlen] at hcon
 have hof1 : rc.of = (x.pgs.length : Int) := by rw [hof, hlen]
 cases hall : allH x (fun j => j == i || hs j) with
 | false =>
  rw [hall] at hcon
  refine (roffer_more1 h1.cell x.s x.m x.pgs (by omega) hp h1.part hof1 hs_ hm_ i hil hrh hH1 hgG A1 c1 hS1.now hl4 hsg hcon).mono ?_
  rintro e w' ⟨rfl, A, c, G', hr, hH, hk, hG⟩
  have hoff : offS x (.hear hs) i = .hear (fun j => j == i || hs j) := by simp [offS, hhf, hearS, hall]
  obtain ⟨F', h9, hF9, hF10⟩ := rv_heard hx h1 hF1 hi hh0 hall (rc0 := rc) rfl rfl rfl rfl hp hof hs_ hm_ rfl hr hH hk (fun j hj => (hG j hj).imp (fun h => ⟨(hG0 j h).1, (hG0 j h).2, fun e => hgG (by rw [← e]; exact h)⟩) id)
  refine ⟨_, rfl, by show RvOut (failK (offS x (.hear hs) i)) _ _ _; rw [hoff]; rfl, F', by rw [hoff]; exact h9, (hg1.mono (T := F) (fun _ h => h.elim)).trans hk (fun j e => .inl (by rw [e]; exact h0.fg)), fun j hj => (hF9 j hj).imp id (fun h => Nat.le_trans hw1 h), hF10⟩
 | true =>
  rw [hall] at hcon
  by_cases hq : x.q < 8 * (szs x.a).sum
  ·refine (roffer_quota1 h1.cell x.s x.m x.pgs (by omega) hp h1.part hof1 hs_ hm_ i hil hrh hH1 hgG A1 c1 hS1.now hl4 hsg (szs x.a) hpg hcon (by rw [h1.quota]; exact hq)).mono ?_
   rintro e w' ⟨b, rc', rfl, hO, hb, hr, hst, hk⟩
   have hoff : offS x (.hear hs) i = .fail 31 := by simp [offS, hhf, hearS, hall, hq]
   refine ⟨_, rfl, by show RvOut (failK (offS x (.hear hs) i)) _ _ _; rw [hoff]; exact ⟨b, _, _, _, rfl, hO, Nat.le_trans hw1 hb⟩, F, by
    rw [hoff]
    exact ⟨rc', hr, hst.trans h1.st, h1.fg, by decide, fun _ => ⟨hq, k, Gk, h1.kat.keep hk (fun j hj e => h1.gk (by rw [← e]; exact hj)) (fun j hj e => h1.gg (by rw [← e]; exact hj)), h1.f0, h1.fk, h1.fG⟩⟩, (hg1.mono (T := F) (fun _ h => h.elim)).trans hk (fun j e => .inl (by rw [e]; exact h0.fg)), fun j hj => .inl hj, fun j hj => Nat.lt_of_lt_of_le (hF1 j hj) hk.size⟩
  ·refine (roffer_all1 h1.cell x.s x.m x.pgs (by omega) hp h1.part hof1 hs_ hm_ i hil hrh hH1 hgG A1 c1 hS1.now hl4 hsg (szs x.a) hpg hcon (by rw [h1.quota]; omega) ⟨hx.s0, hx.s1⟩ hx.m (k := k) (Gk := Gk) (by rw [h1.st]; exact h1.kat) h1.gg (by rw [h1.lo]; omega) (by rw [h1.st]; exact h1.gk) (fun j hj => by rw [h1.st]; exact (hG0 j hj).2)).mono ?_
   rintro e w' ⟨rfl, rc', b, p, Gp, A, c, m, hr, hst, hqu, hrs, her, hP, hK, hk, hb, hw, hG, hKF⟩
   have hoff : offS x (.hear hs) i = .part (makeB x.Q) := by simp [offS, hhf, hearS, hall, hq]
   obtain ⟨F', h9, hk9, hF9, hF10⟩ := rv_begun hx h1 hF1 hr hst hqu her hP hK hk (fun j hj => hj.elim (fun e => by rw [e]; exact h1.fg) (fun e => h1.fk j (by rw [← h1.st]; exact e))) hb hw hG hKF
   exact ⟨_, rfl, by show RvOut (failK (offS x (.hear hs) i)) _ _ _; rw [hoff]; rfl, F', by rw [hoff]; exact h9, (hg1.mono (T := F) (fun _ h => h.elim)).trans hk9 (fun j e => .inl e), fun j hj => (hF9 j hj).imp id (fun h => Nat.le_trans hw1 h), hF10⟩
theorem rv_offer {x : RX} (hx : x.Ok) {g st : Nat} {F : Nat → Prop} {w : World} (hF : ∀ j, F j → j < w.heap.size) (i : Nat) (hi : i < x.P) (A1 : Option Addr) (c1 : Nat) {FS : Nat → Prop} (hS : Foot (SliceR 1 (.slice A1 (pageP (szs x.a) i).length c1) (pageP (szs x.a) i).length (ints (pageP (szs x.a) i))) w FS) (hFS : ∀ j, FS j → ¬ F j) {s : RSt} (h : RvI x g st s F w) :
    Calls Tryz.prog 39 #[.pointer (some ⟨g, 0, none⟩), .agg #[.int .i64 1, .int .u64 x.s, .int .i64 i, .int .i64 x.P, .int .u32 (x.m : Nat), .slice A1 (pageP (szs x.a) i).length c1, .slice none 0 0]] w fun e w' => ∃ v, e = .returned v ∧ RvStep x g st (offS x s i) (offK x s i) F w v w' := by
 have hpart : ∀ {rc : RC} {b : Nat} {p : PP} {kb : List Int} {G : Nat → Prop} {k : KS} {Gk : Nat → Prop}, Rv1 x g st rc b p kb G k Gk F w → rc.phase ≠ 3 → rc.phase ≠ 0 → ∀ (R : Value → World → Prop), (∀ w', Rv1 x g st { rc with resumed := false, closed := false } b p kb G k Gk F w' → Keep (fun j => j = g) w w' → R (.slice none 0 0) w') →
  Calls Tryz.prog 39 #[.pointer (some ⟨g, 0, none⟩), .agg #[.int .i64 1, .int .u64 x.s, .int .i64 i, .int .i64 x.P, .int .u32 (x.m : Nat), .slice A1 (pageP (szs x.a) i).length c1, .slice none 0 0]] w fun e w' => ∃ v, e = .returned v ∧ R v w' := fun {rc b p kb G k Gk} h1 hp3 hp0 R hR => by
   have hgs := h1.at_.cell.lt
   refine rtake_offer h1.at_.cell _ _ _ _ _ _ _ _ _ _ R hp3 (fun w1 hg1 => ?_)
   have h2 := h1.keep hg1 (fun _ _ h => h)
   rw [← h1.s, ← h1.m]
   refine (roffer_part h2.at_.cell hp0 h1.at_.part i x.P A1 none _ c1 0 0).mono ?_
   rintro e w' ⟨rfl, hr, hk⟩
   have hgb := h2.at_.gb
   refine ⟨_, rfl, hR w' ⟨⟨hr, h1.at_.part, h2.at_.pat.keep hk (fun e => hgb.1 e.symm) (fun e => hgb.2.1 e.symm) (fun j hj e => hgb.2.2.1 (by rw [← e]; exact hj)), h2.at_.kat.keep hk (fun j hj e => hgb.2.2.2.1 (by rw [← e]; exact hj)) (fun j hj e => hgb.2.2.2.2 (by rw [← e]; exact hj)), hgb, h2.at_.kf, h2.at_.kg⟩, h1.st, h1.quota, h1.s, h1.m, h1.err, h1.ok, h1.lo, h1.n, h1.f1, h1.f2, h1.f3⟩ ((hg1.mono (T := fun j => j = g) (fun _ h => h.elim)).trans hk (fun j e => .inl e))⟩
 cases s with
 | idle => exact rv_offer_idle hx hF i hi A1 c1 hS hFS h
 | hear hs => exact rv_offer_hear hx hF i hi A1 c1 hS hFS h
 | part kb =>
  obtain ⟨rc, b, p, G, k, Gk, h1, hp, hno⟩ := h
  refine hpart h1 (by rw [hp]; decide) (by rw [hp]; decide) _ (fun w' h2 hk => ⟨rfl, F, ⟨_, b, p, G, k, Gk, h2, hp, hno⟩, hk.mono (fun j e => by rw [e]; exact h1.f1 g (.inl rfl)), fun j hj => .inl hj, fun j hj => Nat.lt_of_lt_of_le (hF j hj) hk.size⟩)
 | ready =>
  obtain ⟨rc, b, p, kb, G, k, Gk, h1, hp, hal⟩ := h
  refine hpart h1 (by rw [hp]; decide) (by rw [hp]; decide) _ (fun w' h2 hk => ⟨rfl, F, ⟨_, b, p, kb, G, k, Gk, h2, hp, hal⟩, hk.mono (fun j e => by rw [e]; exact h1.f1 g (.inl rfl)), fun j hj => .inl hj, fun j hj => Nat.lt_of_lt_of_le (hF j hj) hk.size⟩)
 | fail e =>
  have hI := h
  obtain ⟨rc, h0, _⟩ := h
  refine (rtake_failed h0 x.s i x.P x.m A1 none _ c1 0 0 rfl 1).mono ?_
  rintro e w' ⟨rfl, hg⟩
  exact ⟨_, rfl, RvStep.same hI hF hg⟩
theorem r3get_calls (A : Option Addr) (c : Nat) (bs : List Int) (hb : OkB bs) (i : Nat) (hi : i ≤ 1000000) (w : World) (h : SliceR 1 (.slice A bs.length c) bs.length (u8s bs) w) :
    Calls Tryz.prog 120 #[.slice A bs.length c, .int .i64 i] w fun e w' => e = .returned (.bool (getB bs i)) ∧ w = w' := by
 have hi0 : ¬ ((i : Int) < 0) := by omega
 have hi1 : 0 ≤ (i : Int) := by omega
 by_cases hk : i / 8 < bs.length
 case neg =>
  have hge : ((bs.length : Nat) : Int) ≤ (i : Int) / 8 := by omega
  have HE : Hid (getB bs i = false) := LH (by
   unfold getB
   rw [List.getD_eq_getElem?_getD, List.getElem?_eq_none (by omega)]
   simp)
  clear h hb
  go_enter Tryz.func120, Tryz.ntmps120
  go_wp2
  go_ret
  exact ⟨by rw [HE.out]; rfl, rfl⟩
 have hge : ¬ (((bs.length : Nat) : Int) ≤ (i : Int) / 8) := by omega
 have hlt8 : (i : Int) / 8 < bs.length := by omega
 have h08 : 0 ≤ (i : Int) / 8 := by omega
 obtain ⟨ad, rfl, q0⟩ := SliceR.int_at (k := .u8) h (i / 8) hk
 have hx := hb _ (List.getElem_mem hk)
 obtain ⟨n, hn⟩ : ∃ n : Nat, bs[i / 8] = (n : Int) := ⟨(bs[i / 8]).toNat, by omega⟩
 rw [hn] at q0 hx
 obtain ⟨hx0, hx1⟩ := hx
 have hto : ((i : Int) / 8).toNat = i / 8 := by omega
 have HE : Hid (getB bs i = decide (n / 2 ^ (i % 8) % 2 = 1)) := LH (by
  unfold getB
  rw [List.getD_eq_getElem?_getD, List.getElem?_eq_getElem hk, Option.getD_some, hn, Int.toNat_natCast, Nat.testBit_eq_decide_div_mod_eq])
 clear h hb hn
 go_enter Tryz.func120, Tryz.ntmps120
 go_wp2
 have hm1 : 0 ≤ (i : Int) % 8 := by omega
 have hm2 : (i : Int) % 8 ≤ 7 := by omega
 go_loopw [5, 6] (fun v5 v6 wr => wr = w ∧ ∃ k m : Nat, k ≤ i % 8 ∧ v6 = .int .i64 k ∧ v5 = .int .i64 m ∧ m ≤ 255 ∧ Hid (m = n / 2 ^ k)) (fun _ v6 _ => 8 - (intOf v6).toNat)
 case atStart => exact ⟨rfl, 0, n, by omega, rfl, rfl, by omega, LH (by simp)⟩
 case round =>
  obtain ⟨rfl, k, m, hk8, rfl, rfl, hm255, HM⟩ := hrel
  by_cases hlt : k < i % 8
  ·have hlt' : (k : Int) < (i : Int) % 8 := by omega
   have hw : IntKind.i64.wrap ((k : Int) + 1) = (k : Int) + 1 := IntWalk.i64_in _ (by omega)
   have hd0 : 0 ≤ ((m : Nat) : Int) := Int.natCast_nonneg _
   have HM2 : Hid (m / 2 = n / 2 ^ (k + 1)) := LH (by rw [HM.out, Nat.pow_succ, ← Nat.div_div_eq_div_mul])
   go_wp2
   go_roundw
   case rel => exact ⟨trivial, k + 1, m / 2, by omega, by go_num, congrArg (Value.int .i64) (by omega), by omega, HM2⟩
   case measure => simp [intOf]; omega
  ·obtain rfl : k = i % 8 := by omega
   have hlt' : ¬ (((i % 8 : Nat) : Int) < (i : Int) % 8) := by omega
   replace HE : Hid (getB bs i = decide (m % 2 = 1)) := LH (by rw [HE.out, HM.out])
   have HE2 : Hid ((((m : Nat) : Int) % 2 == 1) = getB bs i) := LH (by
    rw [HE.out, Bool.eq_iff_iff, beq_iff_eq, decide_eq_true_eq]
    omega)
   have hd0 : 0 ≤ ((m : Nat) : Int) := by omega
   clear HM HE
   go_wp2
   go_ret
   exact ⟨by first | rfl | (rw [HE2.out]; rfl), rfl⟩
theorem r3count_calls (A : Option Addr) (c : Nat) (bs : List Int) (hb : OkB bs) (hl : bs.length ≤ 100000) (w : World) (h : SliceR 1 (.slice A bs.length c) bs.length (u8s bs) w) :
    Calls Tryz.prog 48 #[.slice A bs.length c] w fun e w' => e = .returned (.int .i64 (popB bs : Nat)) ∧ w = w' := by
 have HP : Hid (popB bs = ((List.range (8 * bs.length)).filter (getB bs)).length) := LH (by unfold popB; rw [eachL_eq])
 have HB := LH (And.intro hb h)
 have hw8 : IntKind.i64.wrap (8 * (bs.length : Int)) = 8 * (bs.length : Int) := IntWalk.i64_in _ (by omega)
 clear hb h
 go_enter Tryz.func48, Tryz.ntmps48
 go_wp2
 go_loopw [3, 4] (fun v3 v4 wr => wr = w ∧ ∃ k n : Nat, k ≤ 8 * bs.length ∧ v4 = .int .i64 k ∧ v3 = .int .i64 n ∧ n ≤ k ∧ Hid (n = ((List.range k).filter (getB bs)).length)) (fun _ v4 _ => 8 * bs.length - (intOf v4).toNat)
 case atStart => exact ⟨rfl, 0, 0, by omega, rfl, rfl, by omega, LH (by simp)⟩
 case round =>
  obtain ⟨rfl, k, n, hk, rfl, rfl, hnk, HN⟩ := hrel
  by_cases hlt : k < 8 * bs.length
  ·have hlt' : (k : Int) < 8 * (bs.length : Int) := by omega
   have hw : IntKind.i64.wrap ((k : Int) + 1) = (k : Int) + 1 := IntWalk.i64_in _ (by omega)
   have hw2 : IntKind.i64.wrap ((n : Int) + 1) = (n : Int) + 1 := IntWalk.i64_in _ (by omega)
   go_wp2_with fail
   refine (r3get_calls A c bs HB.out.1 k (by omega) wr HB.out.2).mono ?_
   rintro e w1 ⟨rfl, rfl⟩
   have hs : ((List.range (k + 1)).filter (getB bs)).length = ((List.range k).filter (getB bs)).length + (if getB bs k then 1 else 0) := by
    rw [List.range_succ, List.filter_append, List.length_append]
    cases h : getB bs k <;> simp [List.filter_cons, h]
   cases hg : getB bs k with
   | true =>
    have HN2 : Hid (n + 1 = ((List.range (k + 1)).filter (getB bs)).length) := LH (by rw [hs, hg, HN.out]; rfl)
    clear hs hg
    go_wp2
    go_roundw
    case rel => exact ⟨trivial, k + 1, n + 1, by omega, by go_num, by go_num, by omega, HN2⟩
    case measure => simp [intOf]; omega
   | false =>
    have HN2 : Hid (n = ((List.range (k + 1)).filter (getB bs)).length) := LH (by rw [hs, hg, HN.out]; rfl)
    clear hs hg
    go_wp2
    go_roundw
    case rel => exact ⟨trivial, k + 1, n, by omega, by go_num, rfl, by omega, HN2⟩
    case measure => simp [intOf]; omega
  ·obtain rfl : k = 8 * bs.length := by omega
   have hlt' : ¬ (((8 * bs.length : Nat) : Int) < 8 * (bs.length : Int)) := by omega
   have HE : Hid (popB bs = n) := LH (by rw [HP.out, HN.out])
   clear HN
   go_wp2
   go_ret
   exact ⟨by rw [HE.out]; rfl, rfl⟩
theorem own_baseLe {base base' e size n : Nat} {v : Value} {xs : List Value} {w : World} (h : w.ownsRow base e size v n xs) (hb : base' ≤ base) : w.ownsRow base' e size v n xs := by
 refine ⟨h.1, ?_⟩
 rcases h.2 with h2 | ⟨g, cap, cur, rfl, hg, hb2, r⟩
 ·exact .inl h2
 ·exact .inr ⟨g, cap, cur, rfl, Nat.le_trans hb hg, hb2, r⟩
theorem ownsK_keep {S : Nat → Prop} {w w' : World} {mb n : Nat} {D : DataW Unit} (h : w.ownsMap Tryz.prog 3 slR mb n D) (hk : Keep S w w') (hS : ¬ S mb) : w'.ownsMap Tryz.prog 3 slR mb n D := by
 obtain ⟨es, clock, hb, r⟩ := h
 exact ⟨es, clock, (hk.block mb (gE hb).1 hS).trans hb, r⟩
theorem KMap.has {D : DataW Unit} {f : Nat → Option Ck} (h : ∀ k, okI k → ∀ z, D.atKey (.int .i64 k) z = atF f k z) {i : Nat} (hi : i < 512) : Maps.has D (.int .i64 i) = (f i).isSome := by
 have hok : okI (i : Int) := okI_small hi
 have h0 : (0 : Int) ≤ i := by omega
 cases hf : f i with
 | none => exact Maps.has_false_of_atKey (fun z => by rw [h _ hok]; unfold atF; rw [if_pos h0, Int.toNat_natCast, hf])
 | some x => exact Maps.has_true_of_atKey (y := x.d) (fun z => by rw [h _ hok]; unfold atF; rw [if_pos h0, Int.toNat_natCast, hf])
theorem kheld_calls {s : Nat} {k : KS} {G : Nat → Prop} {w : World} (h : KAt s k G w) (hf : ∀ i, 512 ≤ i → k.f i = none) :
    Calls Tryz.prog 49 #[.pointer (some ⟨s, 0, none⟩)] w fun e w' => ∃ hb A c, e = .returned (.slice A hb.length c) ∧ BitsOk hb 512 ∧ (∀ i, i < 512 → getB hb i = (k.f i).isSome) ∧ Grow w w' ∧ w'.ownsRow w.heap.size 5 1 (.slice A hb.length c) hb.length (u8s hb) := by
 obtain ⟨D, hown, hat⟩ := h.map
 obtain ⟨c0, c1, c2, c3, c4, cf⟩ := h.cells
 have hmlt := h.small k.m (.inr (.inl rfl))
 go_enter Tryz.func49, Tryz.ntmps49
 go_wp2_with fail
 refine (bmake_calls 512 (by omega) w).mono ?_
 rintro e w1 ⟨A1, k1, rfl, hg1, ho1⟩
 have q2 := hg1.cell c2 (fun h => h)
 have hw1 := hg1.size
 have hown1 := ownsK_keep hown hg1 (fun h => h)
 have HO1 := LH ho1
 have HAT := LH hat
 clear ho1 hown hat c0 c1 c2 c3 c4 cf h
 go_wp2_with (first | (at_range; refine wpList_range_own _ rfl _ 178 rfl 3 23 keyed_int u_chunks _ k.m k.n D rfl hown1 ?_; intro w0 hrg0 hg0 hs0) | go_in)
 go_frame
 have hb0 : ∀ i, i < 512 → getB (makeB 512) i = ((k.f i).isSome && !Maps.has D (.int .i64 i)) := fun i hi => by rw [getB_make, KMap.has HAT.out hi]; cases (k.f i).isSome <;> rfl
 go_loopw [3] (fun v3 wr => ∃ (left : Lit → Bool) (cnt : Nat) (hb : List Int) (A : Option Addr) (c : Nat), v3 = .slice A hb.length c ∧ wr.ranges Tryz.prog 3 slR k.m w1.heap.size k.n D left cnt ∧ Hid (BitsOk hb 512 ∧ (∀ i, i < 512 → getB hb i = ((k.f i).isSome && !left (.int .i64 i))) ∧ Grow w wr ∧ wr.ownsRow w.heap.size 5 1 (.slice A hb.length c) hb.length (u8s hb) ∧ w1.heap.size < wr.heap.size ∧ ∀ q, (Value.slice A hb.length c).ownBlock = some q → q ≠ w1.heap.size)) (fun _ wr => wr.rangeLeft k.m w1.heap.size)
 case atStart => exact ⟨_, _, makeB 512, A1, k1, by rfl, hrg0, BitsOk.make 512, hb0, hg1.grown hg0 (by simp), own_keep HO1.out ((Keep.refl NoB w1).grown hg0 (by simp)) (fun _ _ h => h), by omega, fun q hq => by have := (HO1.out.lt q hq).2; omega⟩
 case round =>
  obtain ⟨left, cnt, hb, A, c, rfl, hrg, HH⟩ := hrel
  go_wp2_with (first | (at_next; refine wpList_next_ranges _ rfl _ rfl 3 keyed_int slR (Value.int .i64) (id : Value → Value) (fun key kl hkey => by obtain ⟨x, rfl, _⟩ := Maps.keyOf_int_inv u_int hkey; exact ⟨x, rfl⟩) (fun v y _ => ⟨v, rfl⟩) k.m w1.heap.size k.n D left cnt rfl hrg ?_ ?_) | go_in)
  ·intro hc0 hl0
   have HN : Hid (∀ i, i < 512 → getB hb i = (k.f i).isSome) := LH (fun i hi => by rw [HH.out.2.1 i hi, hl0]; simp)
   go_wp2
   go_ret
   exact ⟨hb, A, c, rfl, HH.out.1, HN.out, HH.out.2.2.1, HH.out.2.2.2.1⟩
  ·intro x v kl yd yp w2 cnt2 hkx hlx hvx hat hrg1 hlt hg2 hs2 hen
   obtain ⟨x', e1, rfl, hwf⟩ := Maps.keyOf_int_inv u_int hkx
   injection e1 with _ e1
   subst e1
   obtain ⟨i, rfl, hfi⟩ : ∃ i : Nat, x = i ∧ (k.f i).isSome = true := by
    have h1 := hat .nil
    have h2 := hat (.agg [])
    rw [HAT.out x hwf] at h1 h2
    unfold atF at h1 h2
    by_cases h0 : 0 ≤ x
    ·rw [if_pos h0] at h1 h2
     refine ⟨x.toNat, by omega, ?_⟩
     cases hq : k.f x.toNat with
     | some c => rfl
     | none =>
      rw [hq] at h1 h2
      rw [← h1] at h2
      cases h2
    ·rw [if_neg h0] at h1 h2
     rw [← h1] at h2
     cases h2
   have hi512 : i < 512 := by
    rcases Nat.lt_or_ge i 512 with h9 | h9
    ·exact h9
    ·rw [hf i h9] at hfi; cases hfi
   have hk2 : Keep (fun q => q = w1.heap.size) wr w2 := (Keep.refl _ wr).grown hg2 (fun q e => .inl (by injection e with e; exact e.symm))
   have hg3 : Grow w w2 := HH.out.2.2.1.trans hk2 (fun q e => .inr (by rw [e]; exact hw1))
   have ho3 := own_keep HH.out.2.2.2.1 hk2 (fun q hq e => HH.out.2.2.2.2.2 q hq e)
   have HS3 := LH (And.intro hg3 ho3)
   have hlt1 : w1.heap.size < w2.heap.size := by rw [hs2]; exact HH.out.2.2.2.2.1
   have hok := HH.out.1
   have hset := bset_calls A c hb hok.ok (by rw [hok.len]; omega) i (by omega) w2 (SliceR.of_own ho3)
   have HSET := LH hset
   have HRG := LH (And.intro hrg1 (And.intro hlt hrg))
   have HW1 := LH hlt1
   clear hk2 hg3 ho3 hset hat hvx hlx hkx hrg1 hrg hg2 hs2
   go_wp2_with fail
   refine HSET.out.mono ?_
   rintro e w3 ⟨A3, c3, rfl, hg4, ho4⟩
   have hrg3 := HRG.out.1.kept (row := none) ⟨hg4.os, hg4.tape, hg4.output, hg4.size, fun i hi _ => hg4.block i hi (fun h => h)⟩ (by simp) (by simp)
   have HRG3 := LH hrg3
   have HO4 := LH (And.intro hg4 ho4)
   clear hrg3 hg4 ho4
   have HB : Hid (BitsOk (setB hb i) 512 ∧ ∀ j, j < 512 → getB (setB hb i) j = ((k.f j).isSome && !(left (.int .i64 j) && !(Lit.int .i64 (j : Int)).sameKey (.int .i64 i)))) := LH ⟨hok.set hi512, fun j hj => by
    rw [getB_set]
    by_cases e : j = i
    ·subst e
     rw [decide_eq_true ⟨rfl, by rw [hok.len]; omega⟩, hfi]
     simp [Lit.sameKey]
    ·rw [decide_eq_false (by omega), HH.out.2.1 j hj]
     have : (Lit.int .i64 (j : Int)).sameKey (.int .i64 i) = false := by simp [Lit.sameKey]; omega
     rw [this]
     simp⟩
   go_wp2
   go_roundw
   case rel => exact ⟨_, cnt2, setB hb i, A3, c3, by rfl, HRG3.out, HB.out.1, HB.out.2, HS3.out.1.grow HO4.out.1, own_baseLe HO4.out.2 HS3.out.1.size, Nat.lt_of_lt_of_le HW1.out HO4.out.1.size, fun q hq => by have := (HO4.out.2.lt q hq).1; have := HW1.out; omega⟩
   case measure =>
    rw [HRG3.out.left_eq, HRG.out.2.2.left_eq]
    exact HRG.out.2.1
def E99 (e : Int) : Prop := 0 ≤ e ∧ e ≤ 29
theorem e99_0 : E99 0 := ⟨by decide, by decide⟩
theorem e99_20 : E99 20 := ⟨by decide, by decide⟩
theorem e99_23 : E99 23 := ⟨by decide, by decide⟩
theorem ptrDec_e (x : Int) : E99 (ptrDec x).2 := by
 unfold ptrDec
 repeat' split
 all_goals first | exact e99_0 | exact e99_23
theorem wordA_e (a : List (List Int)) (s x : Int) : E99 (wordA a s x).2 := by
 unfold wordA
 split
 ·exact e99_0
 ·exact e99_20
theorem ptrWords_e (p : Pt) : E99 (ptrWords p).2 := by
 unfold ptrWords
 repeat' split
 all_goals first | exact e99_0 | exact e99_23
theorem ptrAt_e {wd : Int → Int → Int × Int} (h : ∀ s x, E99 (wd s x).2) (s x : Int) : E99 (ptrAt wd s x).2 := by
 unfold ptrAt
 split
 ·exact ptrDec_e _
 ·exact h _ _
theorem foundP_e (sz : List Int) (p : Pt) (s x : Int) : E99 (foundP sz p s x).2 := by
 unfold foundP
 repeat' split
 ·exact e99_0
 ·exact e99_20
 ·exact ptrWords_e _
theorem landedP_e (sz : List Int) {wd : Int → Int → Int × Int} (h : ∀ s x, E99 (wd s x).2) (p : Pt) : E99 (landedP sz wd p).2 := by
 unfold landedP
 repeat' split
 ·exact foundP_e _ _ _ _
 ·exact e99_23
 ·exact ptrAt_e h _ _
theorem twiceP_e (sz : List Int) {wd : Int → Int → Int × Int} (h : ∀ s x, E99 (wd s x).2) (p : Pt) : E99 (twiceP sz wd p).2 := by
 unfold twiceP
 repeat' split
 ·exact foundP_e _ _ _ _
 ·exact e99_23
 ·exact ptrDec_e _
 ·exact ptrDec_e _
 ·exact h _ _
 ·exact h _ _
theorem followP_e (sz : List Int) {wd : Int → Int → Int × Int} (h : ∀ s x, E99 (wd s x).2) (s x : Int) : E99 (followP sz wd s x).2 := by
 unfold followP
 repeat' split
 ·exact foundP_e _ _ _ _
 ·exact twiceP_e _ h _
 ·exact landedP_e _ h _
 ·exact ptrAt_e h _ _
theorem kidsK_e {f : Int → Int → Tr × Int × Int} (hf : ∀ x p, E99 (f x p).2.1) (at0 p0 : Int) : ∀ k, E99 (kidsK f at0 p0 k).2.1
 | 0 => e99_0
 | k + 1 => by
  unfold kidsK
  repeat' split
  ·exact e99_0
  ·exact hf _ _
  ·exact kidsK_e hf at0 p0 k
theorem nodeT_e (wd : Int → Int → Int × Int) {f : Int → Int → Int → Tr × Int × Int} (hf : ∀ s x p, E99 (f s x p).2.1) (o : Ob) (p : Int) : E99 (nodeT wd f o p).2.1 := by
 unfold nodeT
 have hk := kidsK_e (f := f o.seg) (hf _) (if o.size = 6 then o.at_ else o.at_ + o.data) p (if o.size = 6 then o.count else o.ptrs).toNat
 generalize kidsK (f o.seg) (if o.size = 6 then o.at_ else o.at_ + o.data) p (if o.size = 6 then o.count else o.ptrs).toNat = K at hk ⊢
 by_cases h : K.2.1 = 0
 ·rw [if_pos h]; exact e99_0
 ·rw [if_neg h]; exact hk
theorem nodeS_e (sz : List Int) {wd : Int → Int → Int × Int} (h : ∀ s x, E99 (wd s x).2) (last : Bool) {f : Int → Int → Int → Tr × Int × Int} (hf : ∀ s x p, E99 (f s x p).2.1) (s x p : Int) : E99 (nodeS sz wd last f s x p).2.1 := by
 unfold nodeS
 repeat' split
 ·exact (show E99 21 from ⟨by decide, by decide⟩)
 ·exact (show E99 22 from ⟨by decide, by decide⟩)
 ·exact nodeT_e _ hf _ _
 ·exact followP_e _ h _ _
theorem nodeP_e (sz : List Int) {wd : Int → Int → Int × Int} (h : ∀ s x, E99 (wd s x).2) : ∀ (l : Nat) (s x p : Int), E99 (nodeP sz wd l s x p).2.1
 | 0, s, x, p => nodeS_e sz h true (fun _ _ _ => e99_0) s x p
 | l + 1, s, x, p => nodeS_e sz h false (nodeP_e sz h l) s x p
theorem checkP_in (a : List (List Int)) : 0 ≤ checkP a ∧ checkP a ≤ 29 := by
 have hd : E99 (decP a).2 := by
  unfold decP
  split
  ·exact nodeP_e _ (wordA_e a) _ _ _ _
  ·exact ⟨by decide, by decide⟩
 unfold checkP
 repeat' split
 ·exact e99_0
 ·exact e99_23
 ·exact hd
def deedV (d : Int) : Value := .agg #[.int .u8 0, .int .i64 d, .int .i64 0, .int .u64 0, .int .i64 0, .int .i64 0, .int .u32 0, .slice none 0 0, .slice none 0 0, .slice none 0 0, .slice none 0 0]
def pageG (x : RX) (ad : Addr) (cm j : Nat) : Value := .agg #[.int .i64 1, .int .u64 x.s, .int .i64 (j : Nat), .int .i64 (x.P : Nat), .int .u32 (x.m : Nat), .slice (some (ad.add (4 * j))) (pageP (szs x.a) j).length (cm - 4 * j), .slice none 0 0]
def chunkG (x : RX) (A : Option Addr) (c i : Nat) : Value := .agg #[.int .i64 2, .int .u64 x.s, .int .i64 (i : Nat), .int .i64 (x.Q : Nat), .int .u32 (x.m : Nat), .slice none 0 0, .slice A (chunkP x.a i).length c]
def GramPost (x : RX) (ad : Addr) (cm c : Nat) (w : World) (e : Ending) (w' : World) : Prop :=
 Grow w w' ∧ ((c / 64 % 2 = 0 ∧ e = .returned (pageG x ad cm (c % 16 % x.P))) ∨ (c / 64 % 2 ≠ 0 ∧ ∃ A2 c2, e = .returned (chunkG x A2 c2 (c % 16 % x.Q)) ∧ Foot (SliceR 1 (.slice A2 (chunkP x.a (c % 16 % x.Q)).length c2) (chunkP x.a (c % 16 % x.Q)).length (u8s (chunkP x.a (c % 16 % x.Q)))) w' (fun k => w.heap.size ≤ k ∧ k < w'.heap.size)))
def bytesS (x : RX) : RSt → Int
 | .part _ => 8 * (szs x.a).sum
 | .ready => 8 * (szs x.a).sum
 | _ => 0
def phaseS : RSt → Int
 | .idle => 0
 | .hear _ => 1
 | .part _ => 1
 | .ready => 2
 | .fail _ => 3
def errS : RSt → Int
 | .fail e => e
 | _ => 0
theorem rv_new {win back retry : Int} {x : RX} (hc : OkC win back retry x.q) {s : Nat} {k : KS} {w : World} (h : KAt s k NoB w) (hf : k.f = fun _ => none) (hnt : k.nt = ⟨none, 0, 0⟩) (hlo : k.lo = ⟨none, 0, 0⟩) (hn : k.n = 0) :
    Calls Tryz.prog 35 #[.agg #[.int .i64 win, .int .i64 back, .int .i64 retry, .int .i64 x.q], .pointer (some ⟨s, 0, none⟩)] w fun e w' => ∃ g F, e = .returned (.tuple #[.pointer (some ⟨g, 0, none⟩), .int .u16 0]) ∧ Grow w w' ∧ RvI x g s .idle F w' ∧ (∀ j, F j → w.heap.size ≤ j ∨ KF s k j) ∧ ∀ j, F j → j < w'.heap.size := by
 refine (rnew_calls hc h hnt).mono ?_
 rintro e w' ⟨g, rfl, hr, hg, hgs⟩
 have hsm := h.small
 have hk := h.grow hg
 refine ⟨g, fun j => j = g ∨ KF s k j, rfl, hg, ⟨_, k, NoB, ⟨hr, rfl, rfl, hk, fun e => by have := hsm g e; omega, fun e => e, .inl rfl, fun j hj => .inr hj, fun j hj => hj.elim, hn, hf, by rw [hlo], rfl, rfl⟩, rfl⟩, fun j hj => hj.imp (fun e => by rw [e]; exact hgs) id, fun j hj => hj.elim (fun e => by rw [e]; exact hr.lt) (hk.small j)⟩
theorem rv_bytes {x : RX} {g st : Nat} {s : RSt} {F : Nat → Prop} {w : World} (h : RvI x g st s F w) : Calls Tryz.prog 47 #[.pointer (some ⟨g, 0, none⟩)] w fun e w' => e = .returned (.int .i64 (bytesS x s)) ∧ Grow w w' := by
 cases s with
 | idle =>
  obtain ⟨rc, k, Gk, h0, hp⟩ := h
  exact (recvbytes_nil h0.cell h0.part).mono fun e w' ⟨h1, h2⟩ => ⟨h1, by rw [← h2]; exact Keep.refl _ _⟩
 | hear hs =>
  obtain ⟨rc, k, Gk, G, h0, _⟩ := h
  exact (recvbytes_nil h0.cell h0.part).mono fun e w' ⟨h1, h2⟩ => ⟨h1, by rw [← h2]; exact Keep.refl _ _⟩
 | part kb =>
  obtain ⟨rc, b, p, G, k, Gk, h0, _⟩ := h
  exact recvbytes_calls h0.at_.cell h0.at_.part h0.at_.pat
 | ready =>
  obtain ⟨rc, b, p, kb, G, k, Gk, h0, _⟩ := h
  exact recvbytes_calls h0.at_.cell h0.at_.part h0.at_.pat
 | fail e =>
  obtain ⟨rc, h0, _⟩ := h
  exact (recvbytes_nil h0 rfl).mono fun e w' ⟨h1, h2⟩ => ⟨h1, by rw [← h2]; exact Keep.refl _ _⟩
theorem rv_status {x : RX} {g st : Nat} {s : RSt} {F : Nat → Prop} {w : World} (h : RvI x g st s F w) : Calls Tryz.prog 43 #[.pointer (some ⟨g, 0, none⟩)] w fun e w' => (∃ a b : Int, e = .returned (.agg #[.int .i64 (phaseS s), .int .u16 (errS s), .int .i64 a, .int .i64 b])) ∧ Grow w w' := by
 cases s with
 | idle =>
  obtain ⟨rc, k, Gk, h0, hp⟩ := h
  have := rstatus_nil h0.cell h0.part
  rw [hp, h0.err] at this
  exact this.mono fun e w' ⟨h1, h2⟩ => ⟨⟨_, _, h1⟩, h2⟩
 | hear hs =>
  obtain ⟨rc, k, Gk, G, h0, hp, _⟩ := h
  have := rstatus_nil h0.cell h0.part
  rw [hp, h0.err] at this
  exact this.mono fun e w' ⟨h1, h2⟩ => ⟨⟨_, _, h1⟩, h2⟩
 | part kb =>
  obtain ⟨rc, b, p, G, k, Gk, h0, hp, _⟩ := h
  have := rstatus_calls h0.at_.cell h0.at_.part h0.at_.pat
  rw [hp, h0.err] at this
  exact this.mono fun e w' ⟨h1, h2⟩ => ⟨⟨_, _, h1⟩, h2⟩
 | ready =>
  obtain ⟨rc, b, p, kb, G, k, Gk, h0, hp, _⟩ := h
  have := rstatus_calls h0.at_.cell h0.at_.part h0.at_.pat
  rw [hp, h0.err] at this
  exact this.mono fun e w' ⟨h1, h2⟩ => ⟨⟨_, _, h1⟩, h2⟩
 | fail e =>
  obtain ⟨rc, h0, _⟩ := h
  exact (rstatus_nil h0 rfl).mono fun e w' ⟨h1, h2⟩ => ⟨⟨_, _, h1⟩, h2⟩
def QOk (x : RX) : RSt → Prop
 | .idle => True
 | .hear _ => True
 | .part _ => 8 * (szs x.a).sum ≤ x.q
 | .ready => 8 * (szs x.a).sum ≤ x.q
 | .fail e => (e = 31 ∧ x.q < 8 * (szs x.a).sum) ∨ (e ≠ 31 ∧ 8 * (szs x.a).sum ≤ x.q)
theorem hearS_q (x : RX) (hs : Nat → Bool) : QOk x (hearS x hs) := by
 unfold hearS
 split
 ·split
  ·rename_i h; exact .inl ⟨rfl, h⟩
  ·rename_i h; show 8 * (szs x.a).sum ≤ x.q; omega
 ·trivial
theorem offS_q {x : RX} {s : RSt} (h : QOk x s) (j : Nat) : QOk x (offS x s j) := by
 cases s with
 | idle => exact hearS_q x _
 | hear hs =>
  unfold offS
  simp only
  split
  ·exact h
  ·exact hearS_q x _
 | part kb => exact h
 | ready => exact h
 | fail e => exact h
theorem datS_q {x : RX} {s : RSt} (h : QOk x s) (i : Nat) : QOk x (datS x s i) := by
 cases s with
 | part kb =>
  have hq : 8 * (szs x.a).sum ≤ x.q := h
  have hc := checkP_in x.a
  unfold datS
  simp only
  split
  ·exact h
  ·split
   ·exact h
   ·unfold endS
    split
    ·split
     ·exact hq
     ·exact .inr ⟨by omega, hq⟩
    ·exact .inr ⟨by decide, hq⟩
 | idle => exact h
 | hear hs => exact h
 | ready => exact h
 | fail e => exact h
end Go.Proofs.YtfkcpaahdlkcdaaGreat
namespace Go.Proofs.YtfkcpaahdlkcdaaGreat
open Go.RowKit
theorem three_alloc (w : World) (a b c : Obj) : (((w.alloc a).alloc b).alloc c).heap[w.heap.size]? = some a ∧ (((w.alloc a).alloc b).alloc c).heap[w.heap.size + 1]? = some b ∧ (((w.alloc a).alloc b).alloc c).heap[w.heap.size + 2]? = some c ∧ (((w.alloc a).alloc b).alloc c).heap.size = w.heap.size + 3 := by
 obtain ⟨h1, h2, h3⟩ := two_alloc w a b
 have hg := (Keep.refl NoB ((w.alloc a).alloc b)).alloc c
 have h4 := heap_alloc_new ((w.alloc a).alloc b) c
 rw [h3] at h4
 exact ⟨Grow.heap hg h1, Grow.heap hg h2, h4, by simp⟩
structure GI (x : RX) (ad : Addr) (cm : Nat) (A : Option Addr) (ca : Nat) (dn : Int) (w : World) (b7 : Nat) (cs : Array Value) (u : World) : Prop where
 m : u.heap[w.heap.size]? = some (.cells #[.int .u64 x.s, .slice (some ad) (szs x.a).length cm, .int .u32 (x.m : Nat)] 40 (0, 0))
 d : u.heap[w.heap.size + 1]? = some (.cells #[.int .u8 0, .int .i64 dn, .int .i64 0, .int .u64 0, .int .i64 0, .int .i64 0, .int .u32 0, .slice none 0 0, .slice none 0 0, .slice none 0 0, .slice none 0 0] 91 (0, 0))
 z : u.heap[w.heap.size + 2]? = some (.cells #[.int .i64 0, .int .u64 0, .int .i64 0, .int .i64 0, .int .u32 0, .slice none 0 0, .slice none 0 0] 46 (0, 0))
 b : u.heap[b7]? = some (.cells cs 46 (0, 0))
 hb : w.heap.size + 3 ≤ b7
 g : Grow w u
 s : SliceR 1 (.slice (some ad) (szs x.a).length cm) (szs x.a).length (ints (szs x.a)) u
 r : RowsR .u64 x.a (.slice A x.a.length ca) u
theorem SliceR.away {size n : Nat} {v : Value} {vs : List Value} {w u u' : World} {b7 : Nat} (h : SliceR size v n vs w) (hg : Grow w u) (hk : Keep (fun k => k = b7) u u') (hb : w.heap.size ≤ b7) : SliceR size v n vs u' :=
 h.grow ((hg.trans hk (fun i e => .inr (by rw [e]; exact hb))))
section
variable {x : RX} {ad : Addr} {cm : Nat} {A : Option Addr} {ca : Nat} {dn : Int} {w u u' : World} {b7 : Nat} {cs : Array Value}
theorem GI.grow (h : GI x ad cm A ca dn w b7 cs u) (hg : Grow u u') : GI x ad cm A ca dn w b7 cs u' :=
 ⟨Grow.heap hg h.m, Grow.heap hg h.d, Grow.heap hg h.z, Grow.heap hg h.b, h.hb, h.g.grow hg, h.s.grow hg, h.r.grow hg⟩
theorem GI.put (h : GI x ad cm A ca dn w b7 cs u) (i : Nat) (v : Value) (hs : SliceR 1 (.slice (some ad) (szs x.a).length cm) (szs x.a).length (ints (szs x.a)) w) (hr : RowsR .u64 x.a (.slice A x.a.length ca) w) : GI x ad cm A ca dn w b7 (cs.setIfInBounds i v) (u.setCell ⟨b7, i, none⟩ v) := by
 have hk := keep_put b7 i u v
 have hb := h.hb
 have hl1 := (gE h.m).1
 have hl2 := (gE h.d).1
 have hl3 := (gE h.z).1
 have hg : Grow w (u.setCell ⟨b7, i, none⟩ v) := h.g.trans hk (fun j e => .inr (by rw [e]; omega))
 exact ⟨(hk.block _ hl1 (by omega)).trans h.m, (hk.block _ hl2 (by omega)).trans h.d, (hk.block _ hl3 (by omega)).trans h.z, set_cells h.b i v, hb, hg, hs.grow hg, hr.grow hg⟩
end
theorem gram18_calls (x : RX) (hx : x.Ok) (ad : Addr) (cm c : Nat) (hc : c < 256) (A : Option Addr) (ca : Nat) (w : World) (hS : SliceR 1 (.slice (some ad) (szs x.a).length cm) (szs x.a).length (ints (szs x.a)) w) (hR : RowsR .u64 x.a (.slice A x.a.length ca) w) :
    Calls Tryz.prog 40 #[.agg #[.int .u64 x.s, .slice (some ad) (szs x.a).length cm, .int .u32 (x.m : Nat)], .slice A x.a.length ca, deedV (dN c : Nat)] w (GramPost x ad cm c w) := by
 obtain ⟨b1, b2, b3⟩ := dN_bits ⟨c, hc⟩
 simp only at b1 b2 b3
 obtain ⟨j0, hj0⟩ : ∃ j0 : Nat, c % 16 = j0 := ⟨_, rfl⟩
 rw [hj0] at b2
 have HJ0 := LH hj0
 have h0c : 0 ≤ (j0 : Int) := Int.natCast_nonneg _
 clear hj0
 have HSX := LH hx.small
 have h3 := three_alloc w (.cells #[.int .u64 x.s, .slice (some ad) (szs x.a).length cm, .int .u32 (x.m : Nat)] 40) (.cells #[.int .u8 0, .int .i64 (dN c : Nat), .int .i64 0, .int .u64 0, .int .i64 0, .int .i64 0, .int .u32 0, .slice none 0 0, .slice none 0 0, .slice none 0 0, .slice none 0 0] 91) (.cells #[.int .i64 0, .int .u64 0, .int .i64 0, .int .i64 0, .int .u32 0, .slice none 0 0, .slice none 0 0] 46)
 have hg3 := (((Keep.refl NoB w).alloc (.cells #[.int .u64 x.s, .slice (some ad) (szs x.a).length cm, .int .u32 (x.m : Nat)] 40)).alloc (.cells #[.int .u8 0, .int .i64 (dN c : Nat), .int .i64 0, .int .u64 0, .int .i64 0, .int .i64 0, .int .u32 0, .slice none 0 0, .slice none 0 0, .slice none 0 0, .slice none 0 0] 91)).alloc (.cells #[.int .i64 0, .int .u64 0, .int .i64 0, .int .i64 0, .int .u32 0, .slice none 0 0, .slice none 0 0] 46)
 have HM := LH h3.1
 have HD := LH h3.2.1
 have HZ := LH h3.2.2.1
 have HG := LH hg3
 have HS := LH (hS.grow hg3)
 have HR := LH (hR.grow hg3)
 have HX := LH hx
 have HS0 := LH hS
 have HR0 := LH hR
 have HSZ3 := LH h3.2.2.2
 clear h3 hg3 hS hR hx
 unfold deedV
 go_enter Tryz.func40, Tryz.ntmps40
 go_wp2
 obtain ⟨w3, hw3⟩ : ∃ w3, ((w.alloc (.cells #[.int .u64 x.s, .slice (some ad) (szs x.a).length cm, .int .u32 (x.m : Nat)] 40)).alloc (.cells #[.int .u8 0, .int .i64 (dN c : Nat), .int .i64 0, .int .u64 0, .int .i64 0, .int .i64 0, .int .u32 0, .slice none 0 0, .slice none 0 0, .slice none 0 0, .slice none 0 0] 91)).alloc (.cells #[.int .i64 0, .int .u64 0, .int .i64 0, .int .i64 0, .int .u32 0, .slice none 0 0, .slice none 0 0] 46) = w3 := ⟨_, rfl⟩
 rw [hw3] at HM HD HZ HG HS HR HSZ3 ⊢
 obtain ⟨m0, m1, m2, mf⟩ := cells3 HM.out
 have d0 : w3.cell? ⟨w.heap.size + 1, 0, none⟩ = some (.int .u8 0) := World.news_of_block HD.out 0 _ rfl
 have d1 : w3.cell? ⟨w.heap.size + 1, 1, none⟩ = some (.int .i64 (dN c : Nat)) := World.news_of_block HD.out 1 _ rfl
 clear hw3
 refine Code.wp_mono (Q := fun e a' w' => match e with | .normal => ∃ b7, a' = { tmps := (.agg #[.int .u64 x.s, .slice (some ad) (szs x.a).length cm, .int .u32 (x.m : Nat)] :: .slice A x.a.length ca :: .agg #[.int .u8 0, .int .i64 (dN c : Nat), .int .i64 0, .int .u64 0, .int .i64 0, .int .i64 0, .int .u32 0, .slice none 0 0, .slice none 0 0, .slice none 0 0, .slice none 0 0] :: .pointer (some ⟨w.heap.size, 0, none⟩) :: undef :: .pointer (some ⟨w.heap.size + 1, 0, none⟩) :: .pointer (some ⟨w.heap.size + 1 + 1, 0, none⟩) :: .pointer (some ⟨b7, 0, none⟩) :: .pointer (some ⟨w.heap.size, 0, none⟩) :: .int .u64 x.s :: .pointer (some ⟨w.heap.size, 2, none⟩) :: .int .u32 (x.m : Nat) :: .pointer (some ⟨w.heap.size + 1, 1, none⟩) :: .int .i64 (dN c : Nat) :: .int .i64 (j0 : Nat) :: .agg #[.int .u64 x.s, .slice (some ad) (szs x.a).length cm, .int .u32 (x.m : Nat)] :: .int .i64 (x.Q : Nat) :: .agg #[.int .i64 2, .int .u64 x.s, .int .i64 (j0 : Nat), .int .i64 (x.Q : Nat), .int .u32 (x.m : Nat), .slice none 0 0, .slice none 0 0] :: undef :: undef :: undef :: undef :: undef :: undef :: undef :: undef :: undef :: undef :: undef :: undef :: undef :: undef :: undef :: undef :: undef :: undef :: undef :: undef :: undef :: undef :: undef :: undef :: undef :: undef :: undef :: undef :: undef :: undef :: undef :: undef :: undef :: undef :: undef :: undef :: undef :: undef :: undef :: undef :: undef :: undef :: undef :: undef :: undef :: undef :: undef :: undef :: undef :: undef :: undef :: undef :: undef :: undef :: undef :: undef :: undef :: undef :: undef :: undef :: undef :: undef :: undef :: undef :: undef :: undef :: undef :: undef :: undef :: undef :: undef :: undef :: undef :: undef :: undef :: undef :: undef :: []).toArray, defers := [] } ∧ Hid (w'.heap[b7]? = some (.cells #[.int .i64 2, .int .u64 x.s, .int .i64 (j0 : Nat), .int .i64 (x.Q : Nat), .int .u32 (x.m : Nat), .slice none 0 0, .slice none 0 0] 46 (0, 0)) ∧ w.heap.size + 3 ≤ b7 ∧ Grow w3 w') | _ => False) ?cont ?reg
 case reg =>
  refine region_cut NoB [0, 1, 2, 3, 4, 5, 6, 7] [] [1, 3, 5, 7] [11] #[true, true, true, true, true, true, true, true, false, false, false, false] 4 rfl (by kernel_rfl) ?_
  refine ord_pure rfl rfl rfl rfl rfl (fun _ _ _ _ h => h) ?_ ?_ ?_ ?_ ?_
  rotate_left 2
  ·intro w'; go_simp; with_reducible rfl
  ·simp only [Act.put, pB, pC, pD]; rfl
  refine ord_read rfl rfl rfl rfl rfl (fun _ _ _ _ h => h) ?_ ?_ ?_ ?_ ?_
  rotate_left 2
  ·intro w' hg; have q := hg.cell m0 (fun h => h); go_simp; with_reducible rfl
  ·simp only [Act.put, pB, pC, pD]; rfl
  refine ord_pure rfl rfl rfl rfl rfl (fun _ _ _ _ h => h) ?_ ?_ ?_ ?_ ?_
  rotate_left 2
  ·intro w'; go_simp; with_reducible rfl
  ·simp only [Act.put, pB, pC, pD]; rfl
  refine ord_read rfl rfl rfl rfl rfl (fun _ _ _ _ h => h) ?_ ?_ ?_ ?_ ?_
  rotate_left 2
  ·intro w' hg; have q := hg.cell m2 (fun h => h); go_simp; with_reducible rfl
  ·simp only [Act.put, pB, pC, pD]; rfl
  refine ord_pure rfl rfl rfl rfl rfl (fun _ _ _ _ h => h) ?_ ?_ ?_ ?_ ?_
  rotate_left 2
  ·intro w'; go_simp; with_reducible rfl
  ·simp only [Act.put, pB, pC, pD]; rfl
  refine ord_read rfl rfl rfl rfl rfl (fun _ _ _ _ h => h) ?_ ?_ ?_ ?_ ?_
  rotate_left 2
  ·intro w' hg; have q := hg.cell d1 (fun h => h); go_simp; with_reducible rfl
  ·simp only [Act.put, pB, pC, pD]; rfl
  refine ord_pure rfl rfl rfl rfl rfl (fun _ _ _ _ h => h) ?_ ?_ ?_ ?_ ?_
  rotate_left 2
  ·intro w'; go_simp; with_reducible rfl
  ·simp only [Act.put, pB, pC, pD]; rfl
  refine ord_read rfl rfl rfl rfl rfl (fun _ _ _ _ h => h) ?_ ?_ ?_ ?_ ?_
  rotate_left 2
  ·intro w' hg; have q0 := hg.cell m0 (fun h => h); have q1 := hg.cell m1 (fun h => h); have q2 := hg.cell m2 (fun h => h); go_simp; with_reducible rfl
  ·simp only [Act.put, pB, pC, pD]; rfl
  refine ord_nil ?_
  refine any_fork 8 10 #[true, true, true, true, true, true, true, true, true, false, false, false] #[true, true, true, true, true, true, true, true, false, false, true, false] (by kernel_rfl) ?_ ?_
  ·refine ord_call rfl rfl rfl rfl rfl Tryz.func30 rfl rfl [.agg #[.int .u64 x.s, .slice (some ad) (szs x.a).length cm, .int .u32 (x.m : Nat)]] rfl ?_
   refine (rmchunks_calls x.s x.m (szs x.a) (some ad) cm _ (HS.out.grow (Keep.refl NoB w3).drew) HX.out.fit).mono ?_
   rintro e w4 ⟨rfl, hg4⟩
   refine ⟨_, rfl, fun _ => hg4, ?_⟩
   simp only [Act.put, pB, pC, pD]
   refine ord_nil ?_
   refine any_ord [9, 10, 11] [10, 11] [] (by kernel_rfl) ?_
   refine ord_pure rfl rfl rfl rfl rfl (fun _ _ _ _ h => h) ?_ ?_ ?_ ?_ ?_
   rotate_left 2
   ·intro w'; go_simp; with_reducible rfl
   ·simp only [Act.put, pB, pC, pD]; rfl
   refine ord_new rfl rfl rfl rfl ?_ ?_ ?_ ?_ ?_ ?_
   rotate_left 3
   ·go_simp; first | with_reducible rfl | (constructor <;> with_reducible rfl)
   ·simp only [Act.put, pB, pC, pD]; rfl
   have hz7 := heap_alloc_new w4 (.cells #[.int .i64 0, .int .u64 0, .int .i64 0, .int .i64 0, .int .u32 0, .slice none 0 0, .slice none 0 0] 46)
   refine ord_row rfl rfl rfl rfl _ _ _ rfl w4.heap.size #[.int .i64 2, .int .u64 x.s, .int .i64 (j0 : Nat), .int .i64 (x.Q : Nat), .int .u32 (x.m : Nat), .slice none 0 0, .slice none 0 0] rfl rfl _ _ hz7 (by kernel_rfl) rfl (by simp [Value.oneCell']) (fun h => absurd (by simp) h) ?_
   refine ord_nil ?_
   have hs4 := hg4.size
   have hsz3 := HSZ3.out
   have hd3 : w3.drew.heap.size = w3.heap.size := rfl
   exact ⟨w4.heap.size, rfl, LH ⟨setRow_heap _ _ _ _ _ _ hz7, by omega, (((Keep.refl NoB w3).drew.grow hg4).alloc _).setRow (.inr (by omega)) _⟩⟩
  ·refine ord_new rfl rfl rfl rfl ?_ ?_ ?_ ?_ ?_ ?_
   rotate_left 3
   ·go_simp; first | with_reducible rfl | (constructor <;> with_reducible rfl)
   ·simp only [Act.put, pB, pC, pD]; rfl
   have hz7 := heap_alloc_new w3.drew (.cells #[.int .i64 0, .int .u64 0, .int .i64 0, .int .i64 0, .int .u32 0, .slice none 0 0, .slice none 0 0] 46)
   have hga := (Keep.refl NoB w3).drew.alloc (.cells #[.int .i64 0, .int .u64 0, .int .i64 0, .int .i64 0, .int .u32 0, .slice none 0 0, .slice none 0 0] 46)
   refine ord_nil ?_
   refine any_ord [8, 9, 11] [8, 11] [] (by kernel_rfl) ?_
   refine ord_call rfl rfl rfl rfl rfl Tryz.func30 rfl rfl [.agg #[.int .u64 x.s, .slice (some ad) (szs x.a).length cm, .int .u32 (x.m : Nat)]] rfl ?_
   refine (rmchunks_calls x.s x.m (szs x.a) (some ad) cm _ (HS.out.grow hga) HX.out.fit).mono ?_
   rintro e w4 ⟨rfl, hg4⟩
   refine ⟨_, rfl, fun _ => hg4, ?_⟩
   simp only [Act.put, pB, pC, pD]
   refine ord_pure rfl rfl rfl rfl rfl (fun _ _ _ _ h => h) ?_ ?_ ?_ ?_ ?_
   rotate_left 2
   ·intro w'; go_simp; with_reducible rfl
   ·simp only [Act.put, pB, pC, pD]; rfl
   have hz8 := Grow.heap hg4 hz7
   refine ord_row rfl rfl rfl rfl _ _ _ rfl w3.drew.heap.size #[.int .i64 2, .int .u64 x.s, .int .i64 (j0 : Nat), .int .i64 (x.Q : Nat), .int .u32 (x.m : Nat), .slice none 0 0, .slice none 0 0] rfl rfl _ _ hz8 (by kernel_rfl) rfl (by simp [Value.oneCell']) (fun h => absurd (by simp) h) ?_
   refine ord_nil ?_
   have hsz3 := HSZ3.out
   exact ⟨w3.drew.heap.size, rfl, LH ⟨setRow_heap _ _ _ _ _ _ hz8, by show w.heap.size + 3 ≤ w3.heap.size; omega, (hga.grow hg4).setRow (.inr (Nat.le_refl _)) _⟩⟩
 case cont =>
  intro e a' w4 hq
  cases e with
  | normal => ?_
  | _ => exact hq.elim
  obtain ⟨b7, rfl, HF⟩ := hq
  have HI := LH (show GI x ad cm A ca (dN c : Nat) w b7 _ w4 from ⟨Grow.heap HF.out.2.2 HM.out, Grow.heap HF.out.2.2 HD.out, Grow.heap HF.out.2.2 HZ.out, HF.out.1, HF.out.2.1, HG.out.grow HF.out.2.2, HS.out.grow HF.out.2.2, HR.out.grow HF.out.2.2⟩)
  have hb7 := HF.out.2.1
  clear HF HM HD HZ HG HS HR m0 m1 m2 mf d0 d1
  obtain ⟨z0, z1, z2, z3, z4, z5, z6, zf⟩ := cells7 HI.out.b
  obtain ⟨m0, m1, m2, mf⟩ := cells3 HI.out.m
  have d0 : w4.cell? ⟨w.heap.size + 1, 0, none⟩ = some (.int .u8 0) := World.news_of_block HI.out.d 0 _ rfl
  have d1 : w4.cell? ⟨w.heap.size + 1, 1, none⟩ = some (.int .i64 (dN c : Nat)) := World.news_of_block HI.out.d 1 _ rfl
  have hne : b7 ≠ w.heap.size := by omega
  have hne1 : b7 ≠ w.heap.size + 1 := by omega
  have hne2 : b7 ≠ w.heap.size + 1 + 1 := by omega
  by_cases hk : c / 64 % 2 = 0
  ·rw [if_pos hk] at b3
   have HK := LH hk
   clear hk
   have HMP := LH (rmpages_calls x.s x.m (szs x.a) (some ad) cm _ (HI.out.put 0 (.int .i64 1) HS0.out HR0.out).s HX.out.fit)
   rw [show pagesN (szs x.a) = x.P from rfl] at HMP
   have h1 := HI.out.put 0 (.int .i64 1) HS0.out HR0.out
   have HI1 := LH h1
   clear h1
   go_wp2_with fail
   refine HMP.out.mono ?_
   rintro e w5 ⟨rfl, hg5⟩
   have HI5 := LH (HI1.out.grow hg5)
   clear hg5 HI1 HMP z0 z1 z2 z3 z4 z5 z6 zf m0 m1 m2 mf d0 d1
   obtain ⟨z0, z1, z2, z3, z4, z5, z6, zf⟩ := cells7 HI5.out.b
   obtain ⟨m0, m1, m2, mf⟩ := cells3 HI5.out.m
   have d0 : w5.cell? ⟨w.heap.size + 1, 0, none⟩ = some (.int .u8 0) := World.news_of_block HI5.out.d 0 _ rfl
   have d1 : w5.cell? ⟨w.heap.size + 1, 1, none⟩ = some (.int .i64 (dN c : Nat)) := World.news_of_block HI5.out.d 1 _ rfl
   obtain ⟨j1, hj1⟩ : ∃ j1 : Nat, j0 % x.P = j1 := ⟨_, rfl⟩
   have HJ1 : Hid (j0 % x.P = j1 ∧ j1 < x.P) := LH ⟨hj1, by rw [← hj1]; exact Nat.mod_lt _ (by have := HSX.out; omega)⟩
   have hjI : (j0 : Int) % (x.P : Int) = (j1 : Int) := by rw [← hj1]; rfl
   have h1P : (1 : Int) ≤ (x.P : Nat) := by have := HSX.out; omega
   have h2P : ¬ ((x.P : Nat) : Int) ≤ 0 := by omega
   have h3P : ((x.P : Nat) : Int) ≠ 0 := by omega
   have h3 := (HI5.out.put 3 (.int .i64 (x.P : Nat)) HS0.out HR0.out).put 2 (.int .i64 (j1 : Nat)) HS0.out HR0.out
   have HI6 := LH h3
   clear h3 hj1
   go_wp2_with fail
   refine (rpage_calls x.s x.m ad cm (szs x.a) _ HI6.out.s HX.out.fit j1 HJ1.out.2).mono ?_
   rintro e w8 ⟨rfl, hg8⟩
   have HI8 := LH (HI6.out.grow hg8)
   clear hg8 HI6 HI5 hjI z0 z1 z2 z3 z4 z5 z6 zf m0 m1 m2 mf d0 d1
   obtain ⟨z0, z1, z2, z3, z4, z5, z6, zf⟩ := cells7 HI8.out.b
   obtain ⟨m0, m1, m2, mf⟩ := cells3 HI8.out.m
   have d0 : w8.cell? ⟨w.heap.size + 1, 0, none⟩ = some (.int .u8 0) := World.news_of_block HI8.out.d 0 _ rfl
   have d1 : w8.cell? ⟨w.heap.size + 1, 1, none⟩ = some (.int .i64 (dN c : Nat)) := World.news_of_block HI8.out.d 1 _ rfl
   have HI9 := LH (HI8.out.put 5 (.slice (some (ad.add (4 * j1))) (pageP (szs x.a) j1).length (cm - 4 * j1)) HS0.out HR0.out)
   have hfin := stored7 (g := w.heap.size + 1 + 1) (.int .i64 1) (.int .u64 x.s) (.int .i64 (j1 : Nat)) (.int .i64 (x.P : Nat)) (.int .u32 (x.m : Nat)) (.slice (some (ad.add (4 * j1))) (pageP (szs x.a) j1).length (cm - 4 * j1)) (.slice none 0 0) HI9.out.g (show w.heap.size ≤ w.heap.size + 1 + 1 by omega) (show _ = _ from HI9.out.z)
   have HFIN := LH hfin
   clear hfin
   obtain ⟨y0, y1, y2, y3, y4, y5, y6, yf⟩ := cells7 (show w8.heap[w.heap.size + 1 + 1]? = some (.cells #[.int .i64 0, .int .u64 0, .int .i64 0, .int .i64 0, .int .u32 0, .slice none 0 0, .slice none 0 0] 46 (0, 0)) from HI8.out.z)
   clear HI8 HI9
   go_wp2
   obtain ⟨r0, r1, r2, r3, r4, r5, r6, rf⟩ := cells7 HFIN.out.1
   refine bodyPost_ret (v := .agg #[.int .i64 1, .int .u64 x.s, .int .i64 (j1 : Nat), .int .i64 (x.P : Nat), .int .u32 (x.m : Nat), .slice (some (ad.add (4 * j1))) (pageP (szs x.a) j1).length (cm - 4 * j1), .slice none 0 0]) ?res rfl ?post
   case res => rw [results_cell1 rfl]; go_simp
   case post => exact ⟨HFIN.out.2, .inl ⟨HK.out, by rw [HJ0.out, HJ1.out.1]; rfl⟩⟩
  ·rw [if_neg hk] at b3
   have HK := LH hk
   clear hk
   obtain ⟨j1, hj1⟩ : ∃ j1 : Nat, j0 % x.Q = j1 := ⟨_, rfl⟩
   have HJ1 : Hid (j0 % x.Q = j1 ∧ j1 < x.Q) := LH ⟨hj1, by rw [← hj1]; exact Nat.mod_lt _ (by have := HSX.out; omega)⟩
   have hjI : (j0 : Int) % (x.Q : Int) = (j1 : Int) := by rw [← hj1]; rfl
   have h1P : (1 : Int) ≤ (x.Q : Nat) := by have := HSX.out; omega
   have h2P : ¬ ((x.Q : Nat) : Int) ≤ 0 := by omega
   have h3P : ((x.Q : Nat) : Int) ≠ 0 := by omega
   have h3 := HI.out.put 2 (.int .i64 (j1 : Nat)) HS0.out HR0.out
   have HI6 := LH h3
   have HCH := LH (rchunkF_calls x.a HX.out.a HX.out.fit (by have := HSX.out; omega) j1 (by have := HJ1.out.2; have := HSX.out; rw [rB_length]; omega) A ca _ h3.r)
   clear h3 hj1
   go_wp2_with fail
   refine HCH.out.mono ?_
   rintro e w8 ⟨A2, c2, rfl, hg8, hF8⟩
   have HI8 := LH (HI6.out.grow hg8)
   have HF8 : Hid (Foot (SliceR 1 (.slice A2 (chunkP x.a j1).length c2) (chunkP x.a j1).length (u8s (chunkP x.a j1))) w8 (fun k => w4.heap.size ≤ k ∧ k < w8.heap.size)) := LH (by simpa using hF8)
   have HW4 : Hid (w.heap.size + 2 < w4.heap.size ∧ b7 < w4.heap.size) := LH ⟨(gE HI.out.z).1, (gE HI.out.b).1⟩
   clear hg8 hF8 HI6 HI HCH hjI z0 z1 z2 z3 z4 z5 z6 zf m0 m1 m2 mf d0 d1
   obtain ⟨z0, z1, z2, z3, z4, z5, z6, zf⟩ := cells7 HI8.out.b
   obtain ⟨m0, m1, m2, mf⟩ := cells3 HI8.out.m
   have d0 : w8.cell? ⟨w.heap.size + 1, 0, none⟩ = some (.int .u8 0) := World.news_of_block HI8.out.d 0 _ rfl
   have d1 : w8.cell? ⟨w.heap.size + 1, 1, none⟩ = some (.int .i64 (dN c : Nat)) := World.news_of_block HI8.out.d 1 _ rfl
   have HI9 := LH (HI8.out.put 6 (.slice A2 (chunkP x.a j1).length c2) HS0.out HR0.out)
   have hfin := stored7 (g := w.heap.size + 1 + 1) (.int .i64 2) (.int .u64 x.s) (.int .i64 (j1 : Nat)) (.int .i64 (x.Q : Nat)) (.int .u32 (x.m : Nat)) (.slice none 0 0) (.slice A2 (chunkP x.a j1).length c2) HI9.out.g (show w.heap.size ≤ w.heap.size + 1 + 1 by omega) (show _ = _ from HI9.out.z)
   have HFIN := LH hfin
   clear hfin
   have HK7 := LH (((keep_put b7 6 w8 (.slice A2 (chunkP x.a j1).length c2)).mono (T := fun k => k = b7 ∨ k = w.heap.size + 1 + 1) (fun i e => .inl e)).trans (keep7 _ (w.heap.size + 1 + 1) (.int .i64 2) (.int .u64 x.s) (.int .i64 (j1 : Nat)) (.int .i64 (x.Q : Nat)) (.int .u32 (x.m : Nat)) (.slice none 0 0) (.slice A2 (chunkP x.a j1).length c2)) (fun i e => .inl (.inr e)))
   obtain ⟨y0, y1, y2, y3, y4, y5, y6, yf⟩ := cells7 (show w8.heap[w.heap.size + 1 + 1]? = some (.cells #[.int .i64 0, .int .u64 0, .int .i64 0, .int .i64 0, .int .u32 0, .slice none 0 0, .slice none 0 0] 46 (0, 0)) from HI8.out.z)
   clear HI8 HI9
   go_wp2
   obtain ⟨r0, r1, r2, r3, r4, r5, r6, rf⟩ := cells7 HFIN.out.1
   refine bodyPost_ret (v := .agg #[.int .i64 2, .int .u64 x.s, .int .i64 (j1 : Nat), .int .i64 (x.Q : Nat), .int .u32 (x.m : Nat), .slice none 0 0, .slice A2 (chunkP x.a j1).length c2]) ?res rfl ?post
   case res => rw [results_cell1 rfl]; go_simp
   case post => exact ⟨HFIN.out.2, .inr ⟨HK.out, A2, c2, by rw [HJ0.out, HJ1.out.1]; rfl, by rw [HJ0.out, HJ1.out.1]; exact (HF8.out.keep HK7.out (fun k hk e => by have := HW4.out; rcases e with e | e <;> omega)).mono (fun k hk => hk.2) (fun k hk => ⟨by have := HW4.out; omega, Nat.lt_of_lt_of_le hk.2 HK7.out.size⟩)⟩⟩
end Go.Proofs.YtfkcpaahdlkcdaaGreat

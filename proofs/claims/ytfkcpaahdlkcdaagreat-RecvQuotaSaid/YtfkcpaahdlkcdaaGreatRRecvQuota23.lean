import Derived.Test.YtfkcpaahdlkcdaaGreatRRecvQuota01
import Derived.Test.YtfkcpaahdlkcdaaGreatRRecvQuota21
import Derived.Test.YtfkcpaahdlkcdaaGreatRRecvQuota22
import Derived.OpenShut
import Derived.ShutString
import Derived.ChangeOld
import Derived.SizedLaws
import Derived.Deep.Matrix
import Derived.Deep.Grids
set_option linter.unusedSimpArgs false
set_option linter.unusedVariables false
set_option maxRecDepth 100000
set_option maxHeartbeats 16000000
namespace Go.Proofs.YtfkcpaahdlkcdaaGreat
open Go.RowKit
def NextS (x : RX) (s s' : RSt) (kd : Option Int) : Prop := (∃ j, j < x.P ∧ s' = offS x s j ∧ kd = offK x s j) ∨ (∃ i, i < x.Q ∧ s' = datS x s i ∧ kd = datK x s i)
theorem NextS.q {x : RX} {s s' : RSt} {kd : Option Int} (h : NextS x s s' kd) (hq : QOk x s) : QOk x s' := by
 rcases h with ⟨j, _, rfl, _⟩ | ⟨i, _, rfl, _⟩
 ·exact offS_q hq j
 ·exact datS_q hq i
theorem gram_take {x : RX} (hx : x.Ok) {ad : Addr} {cm c : Nat} {w w' : World} {e : Ending} (hG : GramPost x ad cm c w e w') {FS : Nat → Prop} (hS : Foot (SliceR 1 (.slice (some ad) (szs x.a).length cm) (szs x.a).length (ints (szs x.a))) w FS) :
    ∃ gv, e = .returned gv ∧ Grow w w' ∧ ∀ {g st : Nat} {s : RSt} {F : Nat → Prop}, RvI x g st s F w → (∀ j, F j → j < w.heap.size) → (∀ j, FS j → ¬ F j) →
     Calls Tryz.prog 39 #[.pointer (some ⟨g, 0, none⟩), gv] w' fun e2 w2 => ∃ v, e2 = .returned v ∧ ∃ s' kd, NextS x s s' kd ∧ RvStep x g st s' kd F w' v w2 := by
 have hsx := hx.small
 obtain ⟨hg, hc⟩ := hG
 have hs := hg.size
 rcases hc with ⟨_, rfl⟩ | ⟨_, A2, c2, rfl, hF2⟩
 ·have hj : c % 16 % x.P < x.P := Nat.mod_lt _ (by omega)
  have hpl : (pageP (szs x.a) (c % 16 % x.P)).length = min 4 ((szs x.a).length - 4 * (c % 16 % x.P)) := by rw [pageP_take, List.length_take, List.length_drop]
  have hP : x.P = ((szs x.a).length + 3) / 4 := rfl
  refine ⟨_, rfl, hg, fun {g st s F} hI hF hd => ?_⟩
  refine (rv_offer hx (fun j hj => Nat.lt_of_lt_of_le (hF j hj) hs) (c % 16 % x.P) hj (some (ad.add (4 * (c % 16 % x.P)))) (cm - 4 * (c % 16 % x.P)) ((hS.grow hg).imp (fun u hu => ?_)) hd (hI.grow hg)).mono ?_
  ·have h9 := hu.sub (4 * (c % 16 % x.P)) (pageP (szs x.a) (c % 16 % x.P)).length (by omega)
   have e9 : ((szs x.a).drop (4 * (c % 16 % x.P))).take (pageP (szs x.a) (c % 16 % x.P)).length = pageP (szs x.a) (c % 16 % x.P) := by
    rw [hpl, pageP_take]
    rcases Nat.le_total 4 ((szs x.a).length - 4 * (c % 16 % x.P)) with h | h
    ·rw [Nat.min_eq_left h]
    ·rw [Nat.min_eq_right h, List.take_of_length_le (by rw [List.length_drop]; exact Nat.le_refl _), List.take_of_length_le (by rw [List.length_drop]; exact h)]
   rw [e9] at h9
   exact h9
  ·rintro e2 w2 ⟨v, rfl, hst⟩
   exact ⟨v, rfl, _, _, .inl ⟨_, hj, rfl, rfl⟩, hst⟩
 ·have hi : c % 16 % x.Q < x.Q := Nat.mod_lt _ (by omega)
  refine ⟨_, rfl, hg, fun {g st s F} hI hF hd => ?_⟩
  refine (rv_data hx (fun j hj => Nat.lt_of_lt_of_le (hF j hj) hs) (c % 16 % x.Q) hi A2 c2 hF2 (fun j hj e => by have := hF j e; omega) (hI.grow hg)).mono ?_
  rintro e2 w2 ⟨v, rfl, hst⟩
  exact ⟨v, rfl, _, _, .inr ⟨_, hi, rfl, rfl⟩, hst⟩
theorem rv_held {x : RX} {g st : Nat} {s : RSt} {F : Nat → Prop} {w : World} (h : RvI x g st s F w) (hq : QOk x s) (hb : x.q < 8 * (szs x.a).sum) :
    Calls Tryz.prog 49 #[.pointer (some ⟨st, 0, none⟩)] w fun e w' => ∃ hb A c, e = .returned (.slice A hb.length c) ∧ BitsOk hb 512 ∧ popB hb = 0 ∧ Grow w w' ∧ SliceR 1 (.slice A hb.length c) hb.length (u8s hb) w' := by
 have key : ∀ {k : KS} {Gk : Nat → Prop}, KAt st k Gk w → (k.f = fun _ => none) → Calls Tryz.prog 49 #[.pointer (some ⟨st, 0, none⟩)] w fun e w' => ∃ hb A c, e = .returned (.slice A hb.length c) ∧ BitsOk hb 512 ∧ popB hb = 0 ∧ Grow w w' ∧ SliceR 1 (.slice A hb.length c) hb.length (u8s hb) w' := fun {k Gk} hk hf => by
  refine (kheld_calls hk (fun i _ => by rw [hf])).mono ?_
  rintro e w' ⟨hb, A, c, rfl, hok, hno, hg, ho⟩
  refine ⟨hb, A, c, rfl, hok, ?_, hg, SliceR.of_own ho⟩
  rw [hok.pop, List.filter_eq_nil_iff.2 (fun i hi => by rw [hno i (List.mem_range.1 hi), hf]; simp)]
  rfl
 cases s with
 | idle =>
  obtain ⟨rc, k, Gk, h0, _⟩ := h
  exact key h0.kat h0.f0
 | hear hs =>
  obtain ⟨rc, k, Gk, G, h0, _⟩ := h
  exact key h0.kat h0.f0
 | part kb => exact absurd hb (by have h9 : 8 * (szs x.a).sum ≤ x.q := hq; omega)
 | ready => exact absurd hb (by have h9 : 8 * (szs x.a).sum ≤ x.q := hq; omega)
 | fail e =>
  rcases hq with ⟨rfl, _⟩ | ⟨_, h9⟩
  ·obtain ⟨rc, h0, _, _, _, h4⟩ := h
   obtain ⟨_, k, Gk, h5, h6, _⟩ := h4 rfl
   exact key h5 h6
  ·omega
theorem bytes_q {x : RX} (hx : x.Ok) {s : RSt} (hq : QOk x s) (h0 : 0 ≤ x.q) : bytesS x s ≤ x.q := by
 cases s with
 | part kb => exact hq
 | ready => exact hq
 | idle => exact h0
 | hear hs => exact h0
 | fail e => exact h0
theorem recvQuota_calls (session : Int) (A : Option Addr) (c : Nat) (l : List Int) (k quota : Int) (An : Option Addr) (cn : Nat) (n : List Int) (W : World) (h : SliceR 1 (.slice A l.length c) l.length (u8s l) W) (hu : okU l) (hs0 : 0 ≤ session) (hs1 : session ≤ 18446744073709551615) (hk : 0 ≤ k ∧ k ≤ 255) (hq : 0 ≤ quota ∧ quota ≤ 65535) (hn : SliceR 1 (.slice An n.length cn) n.length (ints n) W) :
    Calls Tryz.prog 10 #[.int .u64 session, .slice A l.length c, .int .u8 k, .int .u16 quota, .slice An n.length cn] W fun e w' => e = .returned (.bool true) ∧ Grow W w' := by
 by_cases hlen : 80 < l.length ∨ 60 < n.length
 ·have hgt : (decide ((80 : Int) < ((l.length : Nat) : Int)) || decide ((60 : Int) < ((n.length : Nat) : Int))) = true := by
    rcases hlen with h | h
    ·rw [decide_eq_true (by omega)]; rfl
    ·rw [decide_eq_true (show (60 : Int) < ((n.length : Nat) : Int) by omega), Bool.or_true]
  clear h hu hk hq hn
  rcases hlen with h9 | h9
  ·have h8 : (80 : Int) < ((l.length : Nat) : Int) := by omega
   go_enter Tryz.func10, Tryz.ntmps10
   go_wp2_with fail
   refine (known18_true _).mono ?_
   rintro e w1 ⟨rfl, hg⟩
   have HG := LH hg
   clear hg
   go_wp2
   go_ret
   exact ⟨rfl, HG.out⟩
  ·by_cases h80 : 80 < l.length
   ·have h8 : (80 : Int) < ((l.length : Nat) : Int) := by omega
    go_enter Tryz.func10, Tryz.ntmps10
    go_wp2_with fail
    refine (known18_true _).mono ?_
    rintro e w1 ⟨rfl, hg⟩
    have HG := LH hg
    clear hg
    go_wp2
    go_ret
    exact ⟨rfl, HG.out⟩
   ·have h8 : ¬ ((80 : Int) < ((l.length : Nat) : Int)) := by omega
    have h6 : (60 : Int) < ((n.length : Nat) : Int) := by omega
    go_enter Tryz.func10, Tryz.ntmps10
    go_wp2_with fail
    refine (known18_true _).mono ?_
    rintro e w1 ⟨rfl, hg⟩
    have HG := LH hg
    clear hg
    go_wp2
    go_ret
    exact ⟨rfl, HG.out⟩
 have h8 : ¬ ((80 : Int) < ((l.length : Nat) : Int)) := by omega
 have h6 : ¬ ((60 : Int) < ((n.length : Nat) : Int)) := by omega
 have HBT := LH (bent_fits l A c k W h (by omega) hu hk.1 hk.2)
 have HN := LH hn
 have hn6 : n.length ≤ 60 := by omega
 obtain ⟨hk0, hk1⟩ := hk
 obtain ⟨hq0, hq1⟩ := hq
 have HS01 := LH (And.intro hs0 hs1)
 have hqa : 0 ≤ quota % 2000 := by omega
 have hqb : quota % 2000 ≤ 1999 := by omega
 clear h hu hlen hs0 hs1 hn
 go_enter Tryz.func10, Tryz.ntmps10
 go_wp2_with fail
 refine HBT.out.mono ?_
 rintro e w1 ⟨a, A1, c1, rfl, hg, hoa, hfit, hrows⟩
 have HG := LH hg
 have HO := LH (And.intro hoa hfit)
 have HR := LH hrows
 have hfl := (fits_parts hfit).2.2.2
 rw [szs_sum] at hfl
 have HFL : Hid (a.flatten.length ≤ 1000000) := LH (by omega)
 clear hg hoa hfit hrows hfl HBT
 go_wp2_with fail
 refine (rmof_calls session HS01.out.1 HS01.out.2 a HO.out.1 HO.out.2 HFL.out A1 c1 w1 HR.out).mono ?_
 rintro e w2 ⟨Am, cm, rfl, hg, hsz, Fm, hFm, -⟩
 replace HG := LH (HG.out.grow hg)
 replace HR := LH (HR.out.grow hg)
 have HS := LH hFm
 clear hg hsz hFm
 have hgm := (Keep.refl NoB w2).alloc (.cells #[.int .u64 session, .slice Am (szs a).length cm, .int .u32 (sumP session a : Nat)] 40)
 have HM := LH (heap_alloc_new w2 (.cells #[.int .u64 session, .slice Am (szs a).length cm, .int .u32 (sumP session a : Nat)] 40))
 replace HG := LH (HG.out.grow hgm)
 replace HR := LH (HR.out.grow hgm)
 replace HS := LH (HS.out.grow hgm)
 clear hgm
 go_wp2_with fail
 refine (config_calls k 9 _ ⟨hk0, hk1⟩ (by omega)).mono ?_
 rintro e w3 ⟨rfl, hg⟩
 replace HG := LH (HG.out.grow hg)
 replace HR := LH (HR.out.grow hg)
 replace HS := LH (HS.out.grow hg)
 replace HM := LH (Grow.heap hg HM.out)
 clear hg
 go_wp2_with fail
 have hgc := (Keep.refl NoB w3).alloc (.cells #[.int .i64 (1 + k % 5), .int .i64 (1 + k / 16), .int .i64 10, .int .i64 (quota % 2000)] 26)
 have HC := LH (heap_alloc_new w3 (.cells #[.int .i64 (1 + k % 5), .int .i64 (1 + k / 16), .int .i64 10, .int .i64 (quota % 2000)] 26))
 replace HG := LH (HG.out.grow hgc)
 replace HR := LH (HR.out.grow hgc)
 replace HS := LH (HS.out.grow hgc)
 replace HM := LH (Grow.heap hgc HM.out)
 clear hgc
 obtain ⟨wK, hwK⟩ : ∃ wK, w3.alloc (.cells #[.int .i64 (1 + k % 5), .int .i64 (1 + k / 16), .int .i64 10, .int .i64 (quota % 2000)] 26) = wK := ⟨_, rfl⟩
 rw [hwK] at HG HR HS HM HC ⊢
 obtain ⟨bM, hbM⟩ : ∃ b, w2.heap.size = b := ⟨_, rfl⟩
 obtain ⟨bC, hbC⟩ : ∃ b, w3.heap.size = b := ⟨_, rfl⟩
 rw [hbM] at HM ⊢
 rw [hbC] at HC ⊢
 obtain ⟨x, hxs, hxa, hxm, hxq⟩ : ∃ x : RX, x.s = session ∧ x.a = a ∧ x.m = sumP session a ∧ x.q = quota % 2000 := ⟨⟨session, a, sumP session a, quota % 2000⟩, rfl, rfl, rfl, rfl⟩
 subst hxs hxa
 rw [← hxm] at HM ⊢
 rw [← hxq] at HC ⊢
 have HX : Hid x.Ok := LH ⟨HS01.out.1, HS01.out.2, by rw [hxm]; exact moreN_lt (n := 0) (by omega) (maniB_in _ _), HO.out.1, HO.out.2⟩
 have hxq0 : 0 ≤ x.q := by omega
 have hxq1 : x.q ≤ 1999 := by omega
 have HCF : Hid (OkC (1 + k % 5) (1 + k / 16) 10 x.q) := LH (by constructor <;> omega)
 obtain ⟨ad, rfl⟩ : ∃ ad, Am = some ad := by
  obtain ⟨ad, e, _⟩ := SliceR.int_at (k := .i64) HS.out.now 0 (by have := (fits_parts HO.out.2).1; omega)
  exact ⟨ad, e⟩
 clear hwK hbM hbC hxm hxq hqa hqb HO HS01
 refine (knew_calls wK).mono ?_
 rintro e w4 ⟨st, kk, rfl, hg, hK, hKF, hf, hnt, hlo, hn0⟩
 have hR1 := rv_new (x := x) HCF.out hK hf hnt hlo hn0
 have HRN := LH hR1
 have HG4 := LH hg
 have HKF := LH hKF
 clear hg hK hKF hf hnt hlo hn0 hR1
 have HC4 := LH (Grow.heap HG4.out HC.out)
 obtain ⟨k0, k1, k2, k3, kf⟩ := cells4 HC4.out
 go_wp2_with fail
 refine HRN.out.mono ?_
 rintro e w5 ⟨g, F0, rfl, hg, hI, hF0, hF1⟩
 have HI : Hid (Grow wK w5 ∧ ∃ s F, RvI x g st s F w5 ∧ (∀ j, F j → wK.heap.size ≤ j ∧ j < w5.heap.size) ∧ QOk x s) := LH ⟨HG4.out.grow hg, .idle, F0, hI, fun j hj => ⟨(hF0 j hj).elim (fun h => Nat.le_trans HG4.out.size h) (HKF.out j), hF1 j hj⟩, trivial⟩
 clear hg hI hF0 hF1 HRN HKF HC4 k0 k1 k2 k3 kf HG4
 have HM5 := LH (Grow.heap HI.out.1 HM.out)
 have HC5 := LH (Grow.heap HI.out.1 HC.out)
 obtain ⟨m0, m1, m2, mf⟩ := cells3 HM5.out
 obtain ⟨k0, k1, k2, k3, kf⟩ := cells4 HC5.out
 have HMW := LH (rmwords_calls x.s x.m (szs x.a) (some ad) cm w5.drew ((HS.out.now.grow HI.out.1).grow (Keep.refl NoB w5).drew) HX.out.fit)
 have hw8 : IntKind.i64.wrap (8 * (szs x.a).sum) = 8 * (szs x.a).sum := IntWalk.i64_in _ (by have := HX.out.small; omega)
 go_wp2
 refine region_ord [0, 3, 4, 1, 2, 5, 6] [1, 6] [0, 4] [] rfl (by kernel_rfl) ?_
 refine ord_read rfl rfl rfl rfl rfl (fun _ _ _ _ h => h) ?_ ?_ ?_ ?_ ?_
 rotate_left 2
 ·intro w' hg; have q0 := hg.cell m0 (fun h => h); have q1 := hg.cell m1 (fun h => h); have q2 := hg.cell m2 (fun h => h); go_simp; with_reducible rfl
 ·simp only [Act.put, pB, pC, pD]; rfl
 refine ord_pure rfl rfl rfl rfl rfl (fun _ _ _ _ h => h) ?_ ?_ ?_ ?_ ?_
 rotate_left 2
 ·intro w'; go_simp; with_reducible rfl
 ·simp only [Act.put, pB, pC, pD]; rfl
 refine ord_read rfl rfl rfl rfl rfl (fun _ _ _ _ h => h) ?_ ?_ ?_ ?_ ?_
 rotate_left 2
 ·intro w' hg; have q := hg.cell k3 (fun h => h); go_simp; with_reducible rfl
 ·simp only [Act.put, pB, pC, pD]; rfl
 refine ord_call rfl rfl rfl rfl rfl Tryz.func46 rfl rfl [.agg #[.int .u64 x.s, .slice (some ad) (szs x.a).length cm, .int .u32 (x.m : Nat)]] rfl ?_
 refine HMW.out.mono ?_
 rintro e w6 ⟨rfl, hg6⟩
 refine ⟨_, rfl, fun _ => hg6, ?_⟩
 simp only [Act.put, pB, pC, pD]
 iterate 2
  refine ord_pure rfl rfl rfl rfl rfl (fun _ _ _ _ h => h) ?_ ?_ ?_ ?_ ?_
  rotate_left 2
  ·intro w'; go_simp; with_reducible rfl
  ·simp only [Act.put, pB, pC, pD]; rfl
 refine ord_set rfl rfl rfl rfl ?_ ?_ ?_ ?_ ?_
 rotate_left 2
 ·go_simp; with_reducible rfl
 ·simp only [Act.put, pB, pC, pD]; rfl
 refine ord_nil ?_
 have hg56 := (Keep.refl NoB w5).drew.grow hg6
 replace HI : Hid (Grow wK w6 ∧ ∃ s F, RvI x g st s F w6 ∧ (∀ j, F j → wK.heap.size ≤ j ∧ j < w6.heap.size) ∧ QOk x s) := LH (by
  obtain ⟨h1, s, F, h2, h3, h4⟩ := HI.out
  exact ⟨h1.grow hg56, s, F, h2.grow hg56, fun j hj => ⟨(h3 j hj).1, Nat.lt_of_lt_of_le (h3 j hj).2 hg56.size⟩, h4⟩)
 clear hg6 hg56 HMW HM5 HC5 m0 m1 m2 mf k0 k1 k2 k3 kf
 obtain ⟨big, hbig⟩ : ∃ b, decide (x.q < 8 * (szs x.a).sum) = b := ⟨_, rfl⟩
 rw [hbig]
 have HBIG := LH hbig
 clear hbig hw8
 go_wp2
 go_loopw [19] (fun v wr => ∃ i : Nat, i ≤ n.length ∧ v = .int .i64 i ∧ Hid (Grow wK wr ∧ ∃ s F, RvI x g st s F wr ∧ (∀ j, F j → wK.heap.size ≤ j ∧ j < wr.heap.size) ∧ QOk x s)) (fun v _ => n.length - (intOf v).toNat)
 case atStart => exact ⟨0, by omega, rfl, HI⟩
 case round =>
  clear HI
  obtain ⟨i, hi, rfl, HI⟩ := hrel
  by_cases hlt : i < n.length
  ·have hlt' : (i : Int) < n.length := by omega
   have hwi : IntKind.i64.wrap ((i : Int) + 1) = (i : Int) + 1 := IntWalk.i64_in _ (by omega)
   have hi0 : 0 ≤ (i : Int) := by omega
   have HM6 := LH (Grow.heap HI.out.1 HM.out)
   have HC6 := LH (Grow.heap HI.out.1 HC.out)
   obtain ⟨m0, m1, m2, mf⟩ := cells3 HM6.out
   obtain ⟨k0, k1, k2, k3, kf⟩ := cells4 HC6.out
   obtain ⟨ad2, rfl, q0⟩ := SliceR.int_at (k := .i64) (HN.out.grow (HG.out.grow HI.out.1)) i hlt
   obtain ⟨cN, hcN⟩ : ∃ cN : Nat, n[i] % 256 = (cN : Int) := ⟨(n[i] % 256).toNat, by omega⟩
   have hc256 : cN < 256 := by omega
   have hb1 : bits .and .i64 n[i] 255 = (cN : Int) := by rw [i64_and255, hcN]
   have hb2 : bits .andNot .i64 ((cN : Nat) : Int) 48 = ((dN cN : Nat) : Int) := (dN_bits ⟨cN, hc256⟩).1
   generalize n[i] = ni at q0 hcN hb1
   clear hcN
   obtain ⟨s, F, hI, hF, hQ⟩ := HI.out.2
   have HGR := LH (gram18_calls x HX.out ad cm cN hc256 A1 c1 wr.drew ((HS.out.now.grow HI.out.1).grow (Keep.refl NoB wr).drew) ((HR.out.grow HI.out.1).grow (Keep.refl NoB wr).drew))
   have HSF := LH ((HS.out.grow HI.out.1).grow (Keep.refl NoB wr).drew)
   have HII := LH (hI.grow (Keep.refl NoB wr).drew)
   have HFF := LH hF
   have HQ := LH hQ
   clear hI hF hQ
   unfold deedV at HGR
   go_wp2
   refine region_ord [0, 1, 2, 3, 4, 5, 6, 7, 8, 9, 10, 11] [10, 11] [1, 6] [11] rfl (by kernel_rfl) ?_
   refine ord_pure rfl rfl rfl rfl rfl (fun _ _ _ _ h => h) ?_ ?_ ?_ ?_ ?_
   rotate_left 2
   ·intro w'; go_simp; with_reducible rfl
   ·simp only [Act.put, pB, pC, pD]; rfl
   refine ord_read rfl rfl rfl rfl rfl (fun _ _ _ _ h => h) ?_ ?_ ?_ ?_ ?_
   rotate_left 2
   ·intro w' hg; have q1 := hg.cell m0 (fun h => h); have q2 := hg.cell m1 (fun h => h); have q3 := hg.cell m2 (fun h => h); go_simp; with_reducible rfl
   ·simp only [Act.put, pB, pC, pD]; rfl
   iterate 4
    refine ord_pure rfl rfl rfl rfl rfl (fun _ _ _ _ h => h) ?_ ?_ ?_ ?_ ?_
    rotate_left 2
    ·intro w'; go_simp; with_reducible rfl
    ·simp only [Act.put, pB, pC, pD]; rfl
   refine ord_read rfl rfl rfl rfl rfl (fun _ _ _ _ h => h) ?_ ?_ ?_ ?_ ?_
   rotate_left 2
   ·intro w' hg; have q := hg.cell q0 (fun h => h); go_simp; with_reducible rfl
   ·simp only [Act.put, pB, pC, pD]; rfl
   iterate 3
    refine ord_pure rfl rfl rfl rfl rfl (fun _ _ _ _ h => h) ?_ ?_ ?_ ?_ ?_
    rotate_left 2
    ·intro w'; go_simp; with_reducible rfl
    ·simp only [Act.put, pB, pC, pD]; rfl
   refine ord_call rfl rfl rfl rfl rfl Tryz.func40 rfl rfl [.agg #[.int .u64 x.s, .slice (some ad) (szs x.a).length cm, .int .u32 (x.m : Nat)], .slice A1 x.a.length c1, .agg #[.int .u8 0, .int .i64 (dN cN : Nat), .int .i64 0, .int .u64 0, .int .i64 0, .int .i64 0, .int .u32 0, .slice none 0 0, .slice none 0 0, .slice none 0 0, .slice none 0 0]] rfl ?_
   refine HGR.out.mono ?_
   rintro e w7 hGP
   obtain ⟨gv, rfl, hg7, hT⟩ := gram_take HX.out hGP HSF.out
   have HT := LH (hT HII.out (fun j hj => (HFF.out j hj).2) (fun j hj e => by have := HS.out.lt hj; have := (HFF.out j e).1; omega))
   refine ⟨_, rfl, fun _ => hg7, ?_⟩
   simp only [Act.put, pB, pC, pD]
   refine ord_call rfl rfl rfl rfl rfl Tryz.func39 rfl rfl [.pointer (some ⟨g, 0, none⟩), gv] rfl ?_
   refine HT.out.mono ?_
   rintro e w8 ⟨v, rfl, s', kd, hN, -, F', hI', hk8, hF', hF2'⟩
   refine ⟨_, rfl, fun h => absurd (by simp) h, ?_⟩
   simp only [Act.put, pB, pC, pD]
   refine ord_nil ?_
   have hg67 := (Keep.refl NoB wr).drew.grow hg7
   replace HI : Hid (Grow wK w8 ∧ RvI x g st s' F' w8 ∧ (∀ j, F' j → wK.heap.size ≤ j ∧ j < w8.heap.size) ∧ QOk x s') := LH
    ⟨(HI.out.1.grow hg67).trans hk8 (fun j hj => .inr (HFF.out j hj).1), hI', fun j hj => ⟨(hF' j hj).elim (fun h => (HFF.out j h).1) (fun h => Nat.le_trans (HI.out.1.grow hg67).size h), hF2' j hj⟩, hN.q HQ.out⟩
   clear hGP hg7 hT HT hN hI' hk8 hF' hF2' hg67 HGR HSF HII HFF HQ HM6 HC6 m0 m1 m2 mf k0 k1 k2 k3 kf q0 hb1 hb2 hc256
   go_wp2
   have HC8 := LH (Grow.heap HI.out.1 HC.out)
   obtain ⟨k0, k1, k2, k3, kf⟩ := cells4 HC8.out
   have hbq : decide (x.q < bytesS x s') = false := by rw [decide_eq_false_iff_not]; have := bytes_q HX.out HI.out.2.2.2 hxq0; omega
   have HBY := LH (rv_bytes (HI.out.2.1.grow (Keep.refl NoB w8).drew))
   cases big with
   | true =>
    refine region_ord [0, 2, 3, 1, 4, 5, 6, 7, 8, 9, 10, 11, 12, 13] [1, 9, 10] [3] [] rfl (by kernel_rfl) ?_
    iterate 2
     refine ord_pure rfl rfl rfl rfl rfl (fun _ _ _ _ h => h) ?_ ?_ ?_ ?_ ?_
     rotate_left 2
     ·intro w'; go_simp; with_reducible rfl
     ·simp only [Act.put, pB, pC, pD]; rfl
    refine ord_read rfl rfl rfl rfl rfl (fun _ _ _ _ h => h) ?_ ?_ ?_ ?_ ?_
    rotate_left 2
    ·intro w' hg; have q := hg.cell k3 (fun h => h); go_simp; with_reducible rfl
    ·simp only [Act.put, pB, pC, pD]; rfl
    refine ord_call rfl rfl rfl rfl rfl Tryz.func47 rfl rfl [.pointer (some ⟨g, 0, none⟩)] rfl ?_
    refine HBY.out.mono ?_
    rintro e w9 ⟨rfl, hg9⟩
    refine ⟨_, rfl, fun _ => hg9, ?_⟩
    simp only [Act.put, pB, pC, pD]
    iterate 2
     refine ord_pure rfl rfl rfl rfl rfl (fun _ _ _ _ h => h) ?_ ?_ ?_ ?_ ?_
     rotate_left 2
     ·intro w'; go_simp; with_reducible rfl
     ·simp only [Act.put, pB, pC, pD]; rfl
    iterate 3
     refine ord_pureG rfl rfl rfl rfl rfl (fun _ _ _ _ h => h) ?_ ?_ ?_ ?_ ?_
     rotate_left 2
     ·intro w'; go_simp; with_reducible rfl
     ·simp only [Act.put, pB, pC, pD]; rfl
    have hg89 := (Keep.refl NoB w8).drew.grow hg9
    refine ord_callG rfl rfl rfl rfl rfl Tryz.func49 rfl rfl [.pointer (some ⟨st, 0, none⟩)] rfl ?_
    refine (rv_held (HI.out.2.1.grow hg89) HI.out.2.2.2 (of_decide_eq_true HBIG.out)).mono ?_
    rintro e w10 ⟨hb, Ah, ch, rfl, hok, hpop, hg10, hsl⟩
    refine ⟨_, rfl, fun _ => hg10, ?_⟩
    simp only [Act.put, pB, pC, pD]
    refine ord_callG rfl rfl rfl rfl rfl Tryz.func48 rfl rfl [.slice Ah hb.length ch] rfl ?_
    have hcnt := r3count_calls Ah ch hb hok.ok (by rw [hok.len]; omega) w10 hsl
    rw [hpop] at hcnt
    refine hcnt.mono ?_
    rintro e w11 ⟨rfl, rfl⟩
    refine ⟨_, rfl, fun _ => Keep.refl _ _, ?_⟩
    simp only [Act.put, pB, pC, pD]
    iterate 2
     refine ord_pureG rfl rfl rfl rfl rfl (fun _ _ _ _ h => h) ?_ ?_ ?_ ?_ ?_
     rotate_left 2
     ·intro w'; go_simp; with_reducible rfl
     ·simp only [Act.put, pB, pC, pD]; rfl
    refine ord_pure rfl rfl rfl rfl rfl (fun _ _ _ _ h => h) ?_ ?_ ?_ ?_ ?_
    rotate_left 2
    ·intro w'; go_simp; with_reducible rfl
    ·simp only [Act.put, pB, pC, pD]; rfl
    refine ord_nil ?_
    have hgA := hg89.grow hg10
    have HN2 : Hid (Grow wK w10 ∧ ∃ s F, RvI x g st s F w10 ∧ (∀ j, F j → wK.heap.size ≤ j ∧ j < w10.heap.size) ∧ QOk x s) := LH ⟨HI.out.1.grow hgA, s', F', HI.out.2.1.grow hgA, fun j hj => ⟨(HI.out.2.2.1 j hj).1, Nat.lt_of_lt_of_le (HI.out.2.2.1 j hj).2 hgA.size⟩, HI.out.2.2.2⟩
    clear hg9 hg89 hok hpop hg10 hsl hcnt hgA HI HC8 k0 k1 k2 k3 kf HBY hbq
    go_wp2
    go_roundw
    case rel => exact ⟨i + 1, by omega, by go_num, HN2⟩
    case measure => simp [intOf]; omega
   | false =>
    refine region_ord [0, 2, 3, 1, 4, 5, 6, 7, 8, 9, 10, 11, 12, 13] [1, 9, 10] [3] [] rfl (by kernel_rfl) ?_
    iterate 2
     refine ord_pure rfl rfl rfl rfl rfl (fun _ _ _ _ h => h) ?_ ?_ ?_ ?_ ?_
     rotate_left 2
     ·intro w'; go_simp; with_reducible rfl
     ·simp only [Act.put, pB, pC, pD]; rfl
    refine ord_read rfl rfl rfl rfl rfl (fun _ _ _ _ h => h) ?_ ?_ ?_ ?_ ?_
    rotate_left 2
    ·intro w' hg; have q := hg.cell k3 (fun h => h); go_simp; with_reducible rfl
    ·simp only [Act.put, pB, pC, pD]; rfl
    refine ord_call rfl rfl rfl rfl rfl Tryz.func47 rfl rfl [.pointer (some ⟨g, 0, none⟩)] rfl ?_
    refine HBY.out.mono ?_
    rintro e w9 ⟨rfl, hg9⟩
    refine ⟨_, rfl, fun _ => hg9, ?_⟩
    simp only [Act.put, pB, pC, pD]
    iterate 2
     refine ord_pure rfl rfl rfl rfl rfl (fun _ _ _ _ h => h) ?_ ?_ ?_ ?_ ?_
     rotate_left 2
     ·intro w'; go_simp; with_reducible rfl
     ·simp only [Act.put, pB, pC, pD]; rfl
    iterate 2
     refine ord_pureG rfl rfl rfl rfl rfl (fun _ _ _ _ h => h) ?_ ?_ ?_ ?_ ?_
     rotate_left 2
     ·intro w'; go_simp; with_reducible rfl
     ·simp only [Act.put, pB, pC, pD]; rfl
    refine ord_skip rfl rfl rfl rfl (fun _ _ _ _ h => h) ?_ ?_ ?_
    rotate_left 1
    ·simp only [Act.put, pB, pC, pD]; rfl
    iterate 2
     refine ord_off rfl rfl rfl _ (by simp only [Act.put, pB, pC, pD]; rfl) ?_
    refine ord_skip rfl rfl rfl rfl (fun _ _ _ _ h => h) ?_ ?_ ?_
    rotate_left 1
    ·simp only [Act.put, pB, pC, pD]; rfl
    refine ord_pureG rfl rfl rfl rfl rfl (fun _ _ _ _ h => h) ?_ ?_ ?_ ?_ ?_
    rotate_left 2
    ·intro w'; go_simp; with_reducible rfl
    ·simp only [Act.put, pB, pC, pD]; rfl
    refine ord_pure rfl rfl rfl rfl rfl (fun _ _ _ _ h => h) ?_ ?_ ?_ ?_ ?_
    rotate_left 2
    ·intro w'; go_simp; with_reducible rfl
    ·simp only [Act.put, pB, pC, pD]; rfl
    refine ord_nil ?_
    have hgA := (Keep.refl NoB w8).drew.grow hg9
    have HN2 : Hid (Grow wK w9 ∧ ∃ s F, RvI x g st s F w9 ∧ (∀ j, F j → wK.heap.size ≤ j ∧ j < w9.heap.size) ∧ QOk x s) := LH ⟨HI.out.1.grow hgA, s', F', HI.out.2.1.grow hgA, fun j hj => ⟨(HI.out.2.2.1 j hj).1, Nat.lt_of_lt_of_le (HI.out.2.2.1 j hj).2 hgA.size⟩, HI.out.2.2.2⟩
    clear hg9 hgA HI HC8 k0 k1 k2 k3 kf HBY hbq
    go_wp2
    go_roundw
    case rel => exact ⟨i + 1, by omega, by go_num, HN2⟩
    case measure => simp [intOf]; omega
  ·obtain rfl : i = n.length := by omega
   have hlt' : ¬ ((n.length : Int) < n.length) := by omega
   obtain ⟨s, F, hI, hF, hQ⟩ := HI.out.2
   have HGW := LH (HG.out.grow HI.out.1)
   have HST := LH (rv_status hI)
   have hq : (big = true → phaseS s ≠ 2 ∧ (phaseS s ≠ 3 ∨ errS s = 31)) ∧ (big = false → errS s ≠ 31) := by
    rw [← HBIG.out]
    cases s with
    | idle => simp [phaseS, errS]
    | hear hs => simp [phaseS, errS]
    | part kb => have h9 : 8 * (szs x.a).sum ≤ x.q := hQ; simp [phaseS, errS]; try omega
    | ready => have h9 : 8 * (szs x.a).sum ≤ x.q := hQ; simp [phaseS, errS]; try omega
    | fail e =>
     rcases hQ with ⟨rfl, h9⟩ | ⟨h9, h8⟩
     ·simp [phaseS, errS]; omega
     ·simp [phaseS, errS]; omega
   obtain ⟨p1, hp1⟩ : ∃ p, phaseS s = p := ⟨_, rfl⟩
   obtain ⟨e1, he1⟩ : ∃ p, errS s = p := ⟨_, rfl⟩
   rw [hp1, he1] at hq HST
   have HQ := LH hq
   clear hI hF hQ HI hp1 he1 hq
   go_wp2_with fail
   refine HST.out.mono ?_
   rintro e w9 ⟨⟨a1, b1, rfl⟩, hg9⟩
   replace HGW := LH (HGW.out.grow hg9)
   clear hg9 HST
   have hz := heap_alloc_new w9 (.cells #[.int .i64 p1, .int .u16 e1, .int .i64 a1, .int .i64 b1] 48)
   have hga := (Keep.refl NoB w9).alloc (.cells #[.int .i64 p1, .int .u16 e1, .int .i64 a1, .int .i64 b1] 48)
   replace HGW := LH (HGW.out.grow hga)
   have HZ := LH hz
   clear hz hga
   go_wp2_with fail
   refine (known18_true _).mono ?_
   rintro e w10 ⟨rfl, hg10⟩
   replace HGW := LH (HGW.out.grow hg10)
   replace HZ := LH (Grow.heap hg10 HZ.out)
   clear hg10
   obtain ⟨z0, z1, z2, z3, zf⟩ := cells4 HZ.out
   cases big with
   | true =>
    obtain ⟨hq1, hq2⟩ := HQ.out.1 rfl
    have hb2 : (p1 != 2) = true := bne_iff_ne.2 hq1
    rcases hq2 with hq2 | hq2
    ·have hb3 : (p1 != 3) = true := bne_iff_ne.2 hq2
     clear HQ hq1 hq2
     go_wp2
     go_ret
     exact ⟨rfl, HGW.out⟩
    ·subst hq2
     rcases hb3 : (p1 != 3) with _ | _
     ·clear HQ hq1
      go_wp2
      go_ret
      exact ⟨rfl, HGW.out⟩
     ·clear HQ hq1
      go_wp2
      go_ret
      exact ⟨rfl, HGW.out⟩
   | false =>
    have hb4 : (e1 != 31) = true := bne_iff_ne.2 (HQ.out.2 rfl)
    clear HQ
    go_wp2
    go_ret
    exact ⟨rfl, HGW.out⟩
end Go.Proofs.YtfkcpaahdlkcdaaGreat
namespace Go.Proofs.YtfkcpaahdlkcdaaGreat
open Go.ChangeShapes Go.WideShapes Go.ChangeAt Go.RowKit
open Go.Deep (intRow boolRow open_int_rows open_bools)
theorem SliceR.take {A : Option Addr} {n c m : Nat} {l : List Int} {w : World} (h : SliceR 1 (.slice A n c) n (u8s l) w) (hm : m ≤ n) : SliceR 1 (.slice A m c) m (u8s (l.take m)) w := by
 obtain ⟨A', c', e, h1, h2, h3, h4⟩ := h
 injection e with e1 e2 e3
 subst e1
 subst e3
 have hl : l.length = n := by simpa using h2
 refine ⟨A, c, rfl, by omega, by simp; omega, h3, fun j u hu => h4 j u ?_⟩
 rw [u8s, List.map_take, List.getElem?_take] at hu
 split at hu
 ·exact hu
 ·cases hu
theorem SliceR.cell {A : Option Addr} {n c : Nat} {vs : List Value} {w : World} (h : SliceR 1 (.slice A n c) n vs w) (i : Nat) (hi : i < vs.length) : ∃ ad, A = some ad ∧ w.cell? (ad.add i) = some vs[i] := by
 obtain ⟨A', c', e, h1, h2, h3, h4⟩ := h
 injection e with e1 e2 e3
 subst e1
 exact h4 i _ (List.getElem?_eq_getElem hi)
theorem arg_ints {H : Type} {enc : TypeId × Value → H} {W : World} {held : Bool} {a : Option Addr} {len cap : Nat} {d : DataW H} {ps : List MemPlace} {ts : List TypeId} {ds : List (DataW H)} {j t e B : Nat} {k : IntKind}
    (hu : Tryz.prog.underlying t = some (.slice e)) (he : Tryz.prog.underlying e = some (.int k)) (hc1 : Tryz.prog.cellsOf e = 1) (hB : Tryz.prog.bytesOf e = B)
    (hsz : (DataW.weightsEach Tryz.prog ts ds).all (· ≤ reachBytes) = true) (ht : ts[j]? = some t) (hd : ds[j]? = some d)
    (h : DataW.Trod enc Tryz.prog W 0 (fun _ => true) held t (.slice a len cap) d ps) :
    ∃ l : List Int, SliceR 1 (.slice a l.length cap) l.length (l.map (Value.int k)) W ∧ l.length = len ∧ cap ≤ maxLen ∧ l.length * B ≤ 140737488351232 ∧ ∀ x ∈ l, (Lit.int k x).wf = true := by
 obtain ⟨fuel, hf⟩ := h
 rcases open_ints hu he hc1 hf with ⟨hcs, _⟩ | ⟨x, l, c, zs, hcs, _, hl, hm, hz, hx, hcell, hwz⟩
 ·simp [Value.cells] at hcs
  obtain ⟨rfl, rfl, rfl⟩ := hcs
  exact ⟨[], ⟨none, 0, rfl, Nat.le_refl _, rfl, fun _ => rfl, fun j u hu => by simp at hu⟩, rfl, Nat.zero_le _, by simp, fun x hx => by cases hx⟩
 ·simp [Value.cells] at hcs
  obtain ⟨rfl, rfl, rfl⟩ := hcs
  have hz' : zs.length = cap := by simpa using hz
  have hlen : (zs.take len).length = len := by rw [List.length_take]; omega
  obtain ⟨hx, _⟩ := Prod.mk.inj hx
  subst hx
  have z := sized_slice hsz ht hd hu
  rw [hB] at z
  have h1 : (lits (H := H) k (zs.take len)).length + (lits (H := H) k (zs.drop len)).length = zs.length := by
   simp [lits]
   omega
  rw [h1] at z
  have h10 : reachBytes = 140737488351232 := by decide
  refine ⟨zs.take len, ?_, hlen, hm, ?_, fun x hx => hwz x (List.mem_of_mem_take hx)⟩
  ·rw [hlen]
   refine ⟨some x, cap, rfl, hl, by simp; omega, (fun e => by cases e), fun j u hu => ⟨x, rfl, ?_⟩⟩
   have hj : j < len := by
    rcases Nat.lt_or_ge j len with h | h
    ·exact h
    ·rw [List.getElem?_eq_none (by simp; omega)] at hu; cases hu
   rw [hcell j (by omega)]
   rw [List.getElem?_map, List.getElem?_take, if_pos hj] at hu
   rw [List.getD_eq_getElem?_getD]
   rw [List.getElem?_eq_getElem (by omega)] at hu ⊢
   simpa using hu
  ·rw [hlen, ← h10]
   exact Nat.le_trans (Nat.mul_le_mul_right _ (by omega)) z
end Go.Proofs.YtfkcpaahdlkcdaaGreat

import Derived.Test.YtfkcpaahdlkcdaaGreatM10
/-! Joined: SeH, SeI, SeJ, SeK, SeL, SeM. -/
set_option linter.unusedSimpArgs false
set_option linter.unusedVariables false
namespace Go.Proofs.YtfkcpaahdlkcdaaGreat
open Go.RowKit Go.Shelf
attribute [local go_sem] Oper.semAt_some


set_option maxRecDepth 100000 in
theorem clonei_calls (v : Value) (l : List Int) (w : World) (h : SliceR 1 v l.length (ints l) w) (hl : l.length ≤ 1000000) :
    Calls Tryz.prog 178 #[v] w fun e w' => ∃ A c, e = .returned (.slice A l.length c) ∧ w'.ownsRow w.heap.size 3 1 (.slice A l.length c) l.length (ints l) ∧ Grow w w' := by
  have Hs := Lib.hid ((h.grow ((Keep.refl _ _).alloc (.cells #[] 3))).src u_ints (ints_one l))
  have HL := Lib.hid hl
  clear hl
  have hq := eql_nil u_ints
  obtain ⟨A, c, rfl, hlc, _, hA, _⟩ := h
  cases A with
  | none =>
    have h0 : l = [] := List.eq_nil_of_length_eq_zero (by have := hA rfl; omega)
    subst h0
    go_enter Tryz.func178, Tryz.ntmps178
    go_wp2
    go_ret
    exact ⟨none, 0, rfl, World.ownsRow_nil _ _ _ _, Keep.refl _ _⟩
  | some ad =>
    go_enter Tryz.func178, Tryz.ntmps178
    go_wp2_with (at_builtin; refine wpList_app _ rfl _ _ 37 37 rfl w.heap.size 3 (.int .i64 0) 1 8 u_ints info_int rfl (.slice (some ⟨w.heap.size, 0, none⟩) 0 0) 0 [] rfl (.slice (some ad) l.length c) l.length (ints l) rfl ?_ ?c0 ?c1 ?c2 ?c3 ?c4; intro v' w' hap)
    case c0 => exact World.ownsRow_made w #[] 0 (Nat.le_refl _) (by simp [maxLen]) rfl
    case c1 => exact Hs.out
    case c2 => have := HL.out; simp only [maxLen]; omega
    case c3 => have := HL.out; omega
    case c4 => simp
    have ho := hap.own
    simp only [Nat.zero_add, List.nil_append] at ho
    have hg := ((Keep.refl NoB w).alloc (.cells #[] 3)).grown hap.grew (by simp [Value.ownBlock])
    clear hap
    obtain ⟨A, c2, rfl, _⟩ := own_slice ho
    go_wp2
    go_ret
    exact ⟨_, _, rfl, ho, hg⟩

theorem chunki_calls (A : Option Addr) (n c : Nat) (each : Int) (he : 1 ≤ each) (w : World) :
    Calls Tryz.prog 252 #[.slice A n c, .int .i64 each] w fun e w' => e = .returned (.func (.func 271) #[] #[.pointer (some ⟨w.heap.size, 0, none⟩), .pointer (some ⟨w.heap.size + 1, 0, none⟩)]) ∧ w' = (w.alloc (.cells #[.slice A n c] 37)).alloc (.cells #[.int .i64 each] 3) := by
  go_enter Tryz.func252, Tryz.ntmps252
  go_wp2
  go_ret
  exact ⟨rfl, rfl⟩

set_option maxRecDepth 100000 in
set_option maxHeartbeats 4000000 in
theorem chunk1i_in (F : Fence) (n : Nat) (h7 : F.fn 271) (hro : F.round = none) (hn : 1 ≤ n) (l Bs Bn : Nat) (m each : Nat) (he : 1 ≤ each) (he2 : each ≤ 64) (hm : m ≤ 100000000) (A : Option Addr) (c : Nat) (hmc : m ≤ c) (hA : A = none → c = 0) (Kp : World → World → Prop) (hKt : ∀ {a b c : World}, Kp a b → Kp b c → Kp a c) (hKd : ∀ W, Kp W W.drew) (w0 : World)
    (hKs : ∀ W, Kp w0 W → W.cell? ⟨Bs, 0, none⟩ = some (.slice A m c) ∧ W.cell? ⟨Bn, 0, none⟩ = some (.int .i64 each)) (J Jx : List Nat → World → Prop) (B0 : Nat) (hJ : AbidesFrom B0 J)
    (hY : ∀ pre x W, J pre W → pre.length < chN m each → YieldAt F (n - 1) Tryz.prog l #[chV A m each x] W fun e W' =>
      (e = .returned (.bool true) ∧ J (pre ++ [x]) W' ∧ Kp W W') ∨ (e = .returned (.bool false) ∧ Jx (pre ++ [x]) W'))
    (W : World) (hW : Kp w0 W) (h0 : J [] W) :
    CallsIn F n Tryz.prog 271 #[.func (.yield l) #[] #[], .pointer (some ⟨Bs, 0, none⟩), .pointer (some ⟨Bn, 0, none⟩)] W fun e W' => (∃ v, e = .returned v) ∧
      ((∃ ys, ys = upto (fun k => k) (chN m each) ∧ J ys W') ∨ (∃ pre, (∃ k, k ≤ chN m each ∧ pre = upto (fun k => k) k) ∧ Jx pre W')) := by
  have u0 : Tryz.prog.underlying 37 = some (.slice 3) := u_ints
  refine callsIn_of_wp Tryz.func271 rfl h7 ?_ hro
  simp only [Tryz.ntmps271, List.size_toArray, List.length_cons, List.length_nil, Nat.reduceAdd, Nat.reduceSub, Array.replicate_succ, Array.replicate_zero, List.push_toArray, List.append_toArray, List.nil_append, List.cons_append]
  gi_wp2
  gi_loopw [4] (fun p wr => ∃ k K : Nat, k ≤ chN m each ∧ K = k * each ∧ p = .int .i64 (K : Nat) ∧ Hid (J (upto (fun k => k) k) wr ∧ Kp w0 wr)) (fun p _ => (chN m each + 1) * each - (intOf p).toNat)
  case atStart => exact ⟨0, 0, Nat.zero_le _, by simp, rfl, h0, hW⟩
  case round =>
    obtain ⟨k, K, hk, hK, rfl, HJ⟩ := hrel
    obtain ⟨q1, q2⟩ := hKs wr HJ.out.2
    by_cases hlt : k < chN m each
    · have hke : k * each < m := (chN_lt he).1 hlt
      obtain ⟨ad, rfl⟩ : ∃ ad, A = some ad := by
        cases A with
        | none => have := hA rfl; omega
        | some ad => exact ⟨ad, rfl⟩
      have hYr := hY _ k wr.drew (hJ _ _ _ none HJ.out.1 ⟨rfl, rfl, rfl, Nat.le_refl _, fun _ _ _ => rfl⟩ (fun r e => by cases e)) (by rw [upto_length]; exact hlt)
      obtain ⟨fn, tmps, assign, body, hy, hRR⟩ := hYr
      have HRR := Lib.hid hRR
      have HKS := Lib.hid hKs
      unfold chV chL at hy
      rw [← hK] at hy hke
      dsimp only [Option.map] at hy
      have HKT := Lib.hid (show ∀ W, Kp wr.drew W → Kp w0 W from fun W h => hKt (hKt HJ.out.2 (hKd wr)) h)
      clear hRR hKs hY h0 hKt hKd hJ
      have hK1 : (K : Int) < m := by omega
      have hne : ¬ (c = K) := by omega
      have hin : 0 ≤ (K : Int) ∧ (K : Int) ≤ m := by omega
      obtain ⟨L, hL⟩ : ∃ L : Nat, L = min each (m - K) := ⟨_, rfl⟩
      rw [← hL] at hy
      have hw0 : IntKind.i64.wrap ((K : Int) + L) = (K : Int) + L := IntWalk.i64_in _ (by omega)
      have HK := Lib.hid hK
      have HL := Lib.hid hL
      clear hK hL
      have HKN := Lib.hid (show (k + 1) * each = K + each by rw [HK.out, Nat.succ_mul])
      have hL0 : Hid ((if m - K < each then ((m - K : Nat) : Int) else (each : Int)) = (L : Nat)) := Lib.hid (by have := HL.out; split <;> omega)
      have hLne : ¬ (L = 0) := by have := HL.out; omega
      have hin2 : 0 ≤ (K : Int) + L ∧ (K : Int) + L ≤ c := by have := HL.out; omega
      have hwn : IntKind.i64.wrap ((K : Int) + each) = (K : Int) + each := IntWalk.i64_in _ (by omega)
      clear u0 hin
      have hin : 0 ≤ (K : Int) ∧ (K : Int) ≤ m := by omega
      gi_wp2
      gi_region
      all_goals rw [hL0.out]
      all_goals gi_wp2
      all_goals
        refine HRR.out.mono ?_
        rintro e W3 (⟨rfl, hJ3, hk3⟩ | ⟨rfl, hJx3⟩)
        · have HJ3 : Hid (J (upto (fun k => k) (k + 1)) W3 ∧ Kp w0 W3) := Lib.hid ⟨by rw [upto_succ]; exact hJ3, HKT.out _ hk3⟩
          obtain ⟨p1, p2⟩ := HKS.out _ HJ3.out.2
          clear hJ3 hk3 q1 q2
          gi_wp2
          go_roundw
          case rel => exact ⟨k + 1, K + each, by omega, HKN.out.symm, by go_num, HJ3⟩
          case measure => simp [intOf]; have := HKN.out; have := chN_lt (m := m) (k := k) he; have h9 : (k + 1) * each ≤ chN m each * each := Nat.mul_le_mul_right _ hlt; rw [Nat.succ_mul (chN m each)]; omega
        · have HX := Lib.hid hJx3
          clear hJx3
          gi_wp2
          refine bodyPost_ret (results_none rfl _ _ _) rfl ?_
          exact ⟨⟨_, rfl⟩, .inr ⟨_, ⟨k + 1, hlt, (upto_succ _ _).symm⟩, HX.out⟩⟩
    · obtain rfl : k = chN m each := by omega
      have hke : ¬ (chN m each * each < m) := fun h => by have := (chN_lt he).2 h; omega
      have hke' : ¬ ((K : Int) < m) := by omega
      have HJ2 := Lib.hid HJ.out.1
      clear HJ
      gi_wp2
      go_end0
      exact ⟨⟨_, rfl⟩, .inl (by simpa using HJ2.out)⟩
theorem chunki_stops (F : Fence) (n : Nat) (h7 : F.fn 271) (hro : F.round = none) (hn : 1 ≤ n) (Bs Bn B : Nat) (m each : Nat) (he : 1 ≤ each) (he2 : each ≤ 64) (hm : m ≤ 100000000) (A : Option Addr) (c : Nat) (hmc : m ≤ c) (hA : A = none → c = 0) (w : World)
    (hBs : Boxed w Bs 37 (.slice A m c)) (hBn : Boxed w Bn 3 (.int .i64 each)) :
    SeqStopsK F n Tryz.prog 271 #[.pointer (some ⟨Bs, 0, none⟩), .pointer (some ⟨Bn, 0, none⟩)] (fun x : Nat => #[chV A m each x]) (KeepB B (fun k => k = Bs ∨ k = Bn)) (fun ys => ys = upto (fun k => k) (chN m each))
      (fun pre => ∃ k, k ≤ chN m each ∧ pre = upto (fun k => k) k) (chN m each) w := fun l J Jx W hW hJ _ hY h0 =>
  chunk1i_in F n h7 hro hn l Bs Bn m each he he2 hm A c hmc hA (KeepB B (fun k => k = Bs ∨ k = Bn)) (fun h k => h.trans k) KeepB.drew W
    (fun W' hK => ⟨Boxed.cell (t := 37) ((hK.same _ (.inl rfl)).trans ((hW.block Bs hBs.lt).trans hBs)), Boxed.cell (t := 3) ((hK.same _ (.inr rfl)).trans ((hW.block Bn hBn.lt).trans hBn))⟩) J Jx _ hJ hY W (KeepB.refl _ _ _) h0

end Go.Proofs.YtfkcpaahdlkcdaaGreat
set_option linter.unusedSimpArgs false
set_option linter.unusedVariables false
namespace Go.Proofs.YtfkcpaahdlkcdaaGreat
open Go.RowKit Go.Shelf
attribute [local go_sem] Oper.semAt_some

theorem results_cell1 {fn : Func} {p : Tmp} {ty : TypeId} (h : fn.results = #[.cell p ty]) (tmps : Array Value) (P : Program) (w : World) :
    (results fn tmps).run P w = ((asAddr (tmps.getD p undef)).run P w).andThen fun a w₁ => (loadVar ty a).run P w₁ := by
  simp only [results, h]
  simp [Sem.run_bind, Result.andThen]
set_option maxRecDepth 100000 in
set_option maxHeartbeats 4000000 in
theorem pieceb_calls (A : Option Addr) (c : Nat) (l : List Int) (each i : Nat) (he : 1 ≤ each) (he2 : each ≤ 64) (hm : l.length ≤ 100000000) (hi : i < chN l.length each) (w : World) (hR : SliceR 1 (.slice A l.length c) l.length (u8s l) w) :
    Calls Tryz.prog 141 #[.slice A l.length c, .int .i64 each, .int .i64 i] w fun e w' => ∃ A' c', e = .returned (.slice A' (pieceL l each i).length c') ∧ Grow w w' ∧ w'.ownsRow w.heap.size 5 1 (.slice A' (pieceL l each i).length c') (pieceL l each i).length (u8s (pieceL l each i)) := by
  have hcap : l.length ≤ c ∧ (A = none → c = 0) := by
    obtain ⟨A', c', e, hc, _, hA, _⟩ := hR
    injection e with e1 e2 e3
    subst e1; subst e3
    exact ⟨hc, hA⟩
  refine (callsIn_wide (n := 3)).1 ?_
  refine callsIn_of_wp_marks Tryz.func141 rfl trivial ?_ rfl
  simp only [Tryz.ntmps141, List.size_toArray, List.length_cons, List.length_nil, Nat.reduceAdd, Nat.reduceSub, Array.replicate_succ, Array.replicate_zero, List.push_toArray, List.append_toArray, List.nil_append, List.cons_append]
  gi_wp2_with (refine ⟨trivial, ?_⟩; gi_at_call 169; refine (callsIn_wide.2 (chunkb_calls A l.length c each (by omega) _)).mono ?_; rintro e w' ⟨rfl, rfl⟩)
  have bI : Boxed (w.alloc (.cells #[.int .i64 i] 3)) w.heap.size 3 (.int .i64 i) := Boxed.new _ _ _
  have bO := Boxed.new (w.alloc (.cells #[.int .i64 i] 3)) 23 (.slice none 0 0)
  have bK := Boxed.new ((w.alloc (.cells #[.int .i64 i] 3)).alloc (.cells #[.slice none 0 0] 23)) 3 (.int .i64 0)
  have bS := Boxed.new (((w.alloc (.cells #[.int .i64 i] 3)).alloc (.cells #[.slice none 0 0] 23)).alloc (.cells #[.int .i64 0] 3)) 23 (.slice A l.length c)
  have bN := Boxed.new ((((w.alloc (.cells #[.int .i64 i] 3)).alloc (.cells #[.slice none 0 0] 23)).alloc (.cells #[.int .i64 0] 3)).alloc (.cells #[.slice A l.length c] 23)) 3 (.int .i64 each)
  simp only [World.size_alloc] at bO bK bS bN
  have hB0 : Below w.heap.size w (((((w.alloc (.cells #[.int .i64 i] 3)).alloc (.cells #[.slice none 0 0] 23)).alloc (.cells #[.int .i64 0] 3)).alloc (.cells #[.slice A l.length c] 23)).alloc (.cells #[.int .i64 each] 3)) := (((((Below.refl _ w).alloc (Nat.le_refl _) _).alloc (by simp) _).alloc (by simp; omega) _).alloc (by simp; omega) _).alloc (by simp; omega) _
  have c1 := ((bI.alloc (.cells #[.slice none 0 0] 23)).alloc (.cells #[.int .i64 0] 3)).alloc (.cells #[.slice A l.length c] 23) |>.alloc (.cells #[.int .i64 each] 3)
  have c2 := ((bO.alloc (.cells #[.int .i64 0] 3)).alloc (.cells #[.slice A l.length c] 23)).alloc (.cells #[.int .i64 each] 3)
  have c3 := (bK.alloc (.cells #[.slice A l.length c] 23)).alloc (.cells #[.int .i64 each] 3)
  have c4 := bS.alloc (.cells #[.int .i64 each] 3)
  obtain ⟨W0, hW0⟩ : ∃ W0, (((((w.alloc (.cells #[.int .i64 i] 3)).alloc (.cells #[.slice none 0 0] 23)).alloc (.cells #[.int .i64 0] 3)).alloc (.cells #[.slice A l.length c] 23)).alloc (.cells #[.int .i64 each] 3)) = W0 := ⟨_, rfl⟩
  have hsz : W0.heap.size = w.heap.size + 5 := by rw [← hW0]; simp
  rw [hW0] at bN c1 c2 c3 c4 hB0 ⊢
  clear hW0 bI bO bK bS
  refine wpIn_rangeFunc_ownG rfl (show 1 ≤ 3 by omega) (gf := 220) (lb := #[.pointer (some ⟨w.heap.size + 1 + 1 + 1, 0, none⟩), .pointer (some ⟨w.heap.size + 1 + 1 + 1 + 1, 0, none⟩)]) rfl trivial (enters_of Tryz.func220 (by kernel_rfl) rfl)
    (chunkb_stops Fence.wide _ trivial rfl (by omega) (w.heap.size + 1 + 1 + 1) (w.heap.size + 1 + 1 + 1 + 1) w.heap.size l.length each he he2 hm A c hcap.1 hcap.2 W0 c4 bN) (fun h k => h.trans k) (KeepB.put (by omega) (by intro k hk; omega)) (Below.refl _ _) (fun _ => rfl)
    (fun pre W => pre.length ≤ i ∧ Boxed W w.heap.size 3 (.int .i64 i) ∧ Boxed W (w.heap.size + 1) 23 (.slice none 0 0) ∧ Boxed W (w.heap.size + 1 + 1) 3 (.int .i64 pre.length) ∧ Below w.heap.size w W)
    (fun c' pre W => (c' = .ret ∧ pre.length = i + 1) ∧ (∃ v, Boxed W (w.heap.size + 1) 23 v ∧ W.ownsRow w.heap.size 5 1 v (pieceL l each (pre.getLastD 0)).length (u8s (pieceL l each (pre.getLastD 0))) ∧ True) ∧ Below w.heap.size w W)
    (fun s W W' row hs hg hr => ⟨hs.1, hs.2.1.kept hg (fun e => by have := (hr _ e.symm).1; omega), hs.2.2.1.kept hg (fun e => by have := (hr _ e.symm).1; omega), hs.2.2.2.1.kept hg (fun e => by have := (hr _ e.symm).1; omega), ownFrom_below (β := Unit) (Nat.le_refl _) (show w.heap.size ≤ W0.heap.size by omega) () W W' row hs.2.2.2.2 hg hr⟩)
    (fun c' => OwnFrom.and (ownFrom_pure _ _) (OwnFrom.and (Own.from (holdsRow_own w.heap.size (w.heap.size + 1) 23 5 1 (fun pre : List Nat => (pieceL l each (pre.getLastD 0)).length) (fun pre : List Nat => u8s (pieceL l each (pre.getLastD 0))) (fun pre v => True)) _) (ownFrom_below (Nat.le_refl _) (by omega))))
    ⟨Nat.zero_le _, c1, c2, c3, hB0⟩
    (fun x => { tmps := #[.slice A l.length c, .int .i64 each, .int .i64 i, undef, undef, .pointer (some ⟨w.heap.size, 0, none⟩), .pointer (some ⟨w.heap.size + 1, 0, none⟩), .pointer (some ⟨w.heap.size + 1 + 1, 0, none⟩), chV A l.length each x, .slice A l.length c, .int .i64 each, .func (.func 220) #[] #[.pointer (some ⟨w.heap.size + 1 + 1 + 1, 0, none⟩), .pointer (some ⟨w.heap.size + 1 + 1 + 1 + 1, 0, none⟩)], chV A l.length each x, undef, undef, undef, undef, undef, undef, undef], defers := [] }) ?assign ?body ?done ?stop
  case assign =>
    intro l' x W K hK
    gi_wp2
    exact hK
  case body =>
    rintro l' pre x W ⟨hpl, hI, hO, hN, hB⟩ hlt
    have q1 := hI.cell
    have q2 := hN.cell
    have f2 := hN.frozen
    have q3 := hO.cell
    have f3 := hO.frozen
    have hP := Lib.hid ((hR.grow (Keep.of_below hB)).piece each x)
    have hi9 : i < 100000001 := by have := (chN_lt he).1 hi; have : i ≤ i * each := Nat.le_mul_of_pos_right _ he; omega
    have HI := Lib.hid hI
    have HO := Lib.hid hO
    have HN := Lib.hid hN
    have HB := Lib.hid hB
    clear hI hO hN hB
    by_cases he3 : pre.length = i
    · have ht : (((pre.length : Int)) == (i : Int)) = true := by rw [he3]; exact beq_self_eq_true _
      have h2 : 1 ≤ 3 - 1 - 1 := by omega
      have hpl2 : (pieceL l each x).length ≤ 1000000 := by rw [pieceL_length]; unfold chL; omega
      gi_wp2_with (refine ⟨trivial, ?_⟩; gi_at_call 207; refine (CallsIn.inRound l' (callsIn_wide.2 (cloneb_calls (chV A l.length each x) (pieceL l each x) W hP.out hpl2))).mono ?_; rintro e w5 ⟨A5, c5, rfl, ho5, hg5⟩; have q5 := (HO.out.kept (row := none) ⟨hg5.os, hg5.tape, hg5.output, hg5.size, fun k hk _ => hg5.block k hk (fun h => h)⟩ (by simp)).cell; have f5 := (HO.out.kept (row := none) ⟨hg5.os, hg5.tape, hg5.output, hg5.size, fun k hk _ => hg5.block k hk (fun h => h)⟩ (by simp)).frozen; have Ho5 := Lib.hid ho5; have Hg5 := Lib.hid hg5; clear ho5 hg5)
      have hbx := Boxed.set (.slice A5 (pieceL l each x).length c5) (show Boxed w5 (w.heap.size + 1) 23 _ from Grow.heap Hg5.out HO.out)
      have hlast : (pre ++ [x]).getLastD 0 = x := by simp
      have hsw := HB.out.size
      have hlo := HI.out.lt
      have hlo1 := HO.out.lt
      refine ⟨((show KeepsOthers W w5 from ⟨Hg5.out.size, fun k o hk _ => Grow.heap Hg5.out hk⟩).trans (KeepsOthers.setCell _ _ _)).from _, ⟨rfl, by simp [he3]⟩, ⟨_, hbx, ?_, trivial⟩, (HB.out.trans (Hg5.out.below _ hsw (fun _ h => h.elim))).setCell (p := ⟨w.heap.size + 1, 0, none⟩) (by simp) _⟩
      rw [hlast]
      exact own_keep (own_le Ho5.out hsw) ((Keep.refl (fun j => j = w.heap.size + 1) w5).setCell (p := ⟨w.heap.size + 1, 0, none⟩) (.inl rfl) _) (fun k hk e => by have := (Ho5.out.lt k hk).1; omega)
    · have ht : (((pre.length : Int)) == (i : Int)) = false := by rw [beq_eq_false_iff_ne]; omega
      have hw : IntKind.i64.wrap ((pre.length : Int) + 1) = (pre.length : Int) + 1 := IntWalk.i64_in _ (by omega)
      gi_wp2
      refine ⟨(KeepsOthers.setCell _ _ _).from _, (KeepB.refl _ _ _).set (by omega) (by intro k hk; omega) _, by simp; omega, HI.out.other (by omega) _, HO.out.other (by omega) _, by simpa using HN.out.set (.int .i64 (pre.length + 1)), HB.out.setCell (p := ⟨w.heap.size + 1 + 1, 0, none⟩) (by simp; omega) _⟩
  case done =>
    rintro D ys W hD rfl ⟨hl, _⟩ hK
    rw [upto_length] at hl
    omega
  case stop =>
    rintro D c' pre W hD ⟨k, hk, rfl⟩ ⟨⟨rfl, hl⟩, ⟨v, hv, hrow, -⟩, hB⟩ hK
    rw [upto_length] at hl
    subst hl
    rw [upto_last] at hrow
    have hc := hv.cell
    obtain ⟨A5, c5, rfl, _⟩ := own_slice hrow
    gi_wp2
    have hc2 := (hv.kept (grownBy_putObj' W D (.deferred none)) (fun e => by injection e; omega)).cell
    refine ⟨by simp, .inl ⟨_, _, rfl, run_takeDeferred hK, ?_⟩⟩
    refine ⟨_, by rw [results_cell1 rfl]; go_simp, A5, c5, rfl, Keep.of_below (hB.trans (belowK_b (w := w) (Nat.le_refl _) W D _ _ (by omega) hK rfl rfl)), ownsRow_putObj hrow _ hK rfl⟩
set_option maxRecDepth 100000 in
set_option maxHeartbeats 4000000 in
theorem piecei_calls (A : Option Addr) (c : Nat) (l : List Int) (each i : Nat) (he : 1 ≤ each) (he2 : each ≤ 64) (hm : l.length ≤ 100000000) (hi : i < chN l.length each) (w : World) (hR : SliceR 1 (.slice A l.length c) l.length (ints l) w) :
    Calls Tryz.prog 213 #[.slice A l.length c, .int .i64 each, .int .i64 i] w fun e w' => ∃ A' c', e = .returned (.slice A' (pieceL l each i).length c') ∧ Grow w w' ∧ w'.ownsRow w.heap.size 3 1 (.slice A' (pieceL l each i).length c') (pieceL l each i).length (ints (pieceL l each i)) := by
  have hcap : l.length ≤ c ∧ (A = none → c = 0) := by
    obtain ⟨A', c', e, hc, _, hA, _⟩ := hR
    injection e with e1 e2 e3
    subst e1; subst e3
    exact ⟨hc, hA⟩
  refine (callsIn_wide (n := 3)).1 ?_
  refine callsIn_of_wp_marks Tryz.func213 rfl trivial ?_ rfl
  simp only [Tryz.ntmps213, List.size_toArray, List.length_cons, List.length_nil, Nat.reduceAdd, Nat.reduceSub, Array.replicate_succ, Array.replicate_zero, List.push_toArray, List.append_toArray, List.nil_append, List.cons_append]
  gi_wp2_with (refine ⟨trivial, ?_⟩; gi_at_call 252; refine (callsIn_wide.2 (chunki_calls A l.length c each (by omega) _)).mono ?_; rintro e w' ⟨rfl, rfl⟩)
  have bI : Boxed (w.alloc (.cells #[.int .i64 i] 3)) w.heap.size 3 (.int .i64 i) := Boxed.new _ _ _
  have bO := Boxed.new (w.alloc (.cells #[.int .i64 i] 3)) 37 (.slice none 0 0)
  have bK := Boxed.new ((w.alloc (.cells #[.int .i64 i] 3)).alloc (.cells #[.slice none 0 0] 37)) 3 (.int .i64 0)
  have bS := Boxed.new (((w.alloc (.cells #[.int .i64 i] 3)).alloc (.cells #[.slice none 0 0] 37)).alloc (.cells #[.int .i64 0] 3)) 37 (.slice A l.length c)
  have bN := Boxed.new ((((w.alloc (.cells #[.int .i64 i] 3)).alloc (.cells #[.slice none 0 0] 37)).alloc (.cells #[.int .i64 0] 3)).alloc (.cells #[.slice A l.length c] 37)) 3 (.int .i64 each)
  simp only [World.size_alloc] at bO bK bS bN
  have hB0 : Below w.heap.size w (((((w.alloc (.cells #[.int .i64 i] 3)).alloc (.cells #[.slice none 0 0] 37)).alloc (.cells #[.int .i64 0] 3)).alloc (.cells #[.slice A l.length c] 37)).alloc (.cells #[.int .i64 each] 3)) := (((((Below.refl _ w).alloc (Nat.le_refl _) _).alloc (by simp) _).alloc (by simp; omega) _).alloc (by simp; omega) _).alloc (by simp; omega) _
  have c1 := ((bI.alloc (.cells #[.slice none 0 0] 37)).alloc (.cells #[.int .i64 0] 3)).alloc (.cells #[.slice A l.length c] 37) |>.alloc (.cells #[.int .i64 each] 3)
  have c2 := ((bO.alloc (.cells #[.int .i64 0] 3)).alloc (.cells #[.slice A l.length c] 37)).alloc (.cells #[.int .i64 each] 3)
  have c3 := (bK.alloc (.cells #[.slice A l.length c] 37)).alloc (.cells #[.int .i64 each] 3)
  have c4 := bS.alloc (.cells #[.int .i64 each] 3)
  obtain ⟨W0, hW0⟩ : ∃ W0, (((((w.alloc (.cells #[.int .i64 i] 3)).alloc (.cells #[.slice none 0 0] 37)).alloc (.cells #[.int .i64 0] 3)).alloc (.cells #[.slice A l.length c] 37)).alloc (.cells #[.int .i64 each] 3)) = W0 := ⟨_, rfl⟩
  have hsz : W0.heap.size = w.heap.size + 5 := by rw [← hW0]; simp
  rw [hW0] at bN c1 c2 c3 c4 hB0 ⊢
  clear hW0 bI bO bK bS
  refine wpIn_rangeFunc_ownG rfl (show 1 ≤ 3 by omega) (gf := 271) (lb := #[.pointer (some ⟨w.heap.size + 1 + 1 + 1, 0, none⟩), .pointer (some ⟨w.heap.size + 1 + 1 + 1 + 1, 0, none⟩)]) rfl trivial (enters_of Tryz.func271 (by kernel_rfl) rfl)
    (chunki_stops Fence.wide _ trivial rfl (by omega) (w.heap.size + 1 + 1 + 1) (w.heap.size + 1 + 1 + 1 + 1) w.heap.size l.length each he he2 hm A c hcap.1 hcap.2 W0 c4 bN) (fun h k => h.trans k) (KeepB.put (by omega) (by intro k hk; omega)) (Below.refl _ _) (fun _ => rfl)
    (fun pre W => pre.length ≤ i ∧ Boxed W w.heap.size 3 (.int .i64 i) ∧ Boxed W (w.heap.size + 1) 37 (.slice none 0 0) ∧ Boxed W (w.heap.size + 1 + 1) 3 (.int .i64 pre.length) ∧ Below w.heap.size w W)
    (fun c' pre W => (c' = .ret ∧ pre.length = i + 1) ∧ (∃ v, Boxed W (w.heap.size + 1) 37 v ∧ W.ownsRow w.heap.size 3 1 v (pieceL l each (pre.getLastD 0)).length (ints (pieceL l each (pre.getLastD 0))) ∧ True) ∧ Below w.heap.size w W)
    (fun s W W' row hs hg hr => ⟨hs.1, hs.2.1.kept hg (fun e => by have := (hr _ e.symm).1; omega), hs.2.2.1.kept hg (fun e => by have := (hr _ e.symm).1; omega), hs.2.2.2.1.kept hg (fun e => by have := (hr _ e.symm).1; omega), ownFrom_below (β := Unit) (Nat.le_refl _) (show w.heap.size ≤ W0.heap.size by omega) () W W' row hs.2.2.2.2 hg hr⟩)
    (fun c' => OwnFrom.and (ownFrom_pure _ _) (OwnFrom.and (Own.from (holdsRow_own w.heap.size (w.heap.size + 1) 37 3 1 (fun pre : List Nat => (pieceL l each (pre.getLastD 0)).length) (fun pre : List Nat => ints (pieceL l each (pre.getLastD 0))) (fun pre v => True)) _) (ownFrom_below (Nat.le_refl _) (by omega))))
    ⟨Nat.zero_le _, c1, c2, c3, hB0⟩
    (fun x => { tmps := #[.slice A l.length c, .int .i64 each, .int .i64 i, undef, undef, .pointer (some ⟨w.heap.size, 0, none⟩), .pointer (some ⟨w.heap.size + 1, 0, none⟩), .pointer (some ⟨w.heap.size + 1 + 1, 0, none⟩), chV A l.length each x, .slice A l.length c, .int .i64 each, .func (.func 271) #[] #[.pointer (some ⟨w.heap.size + 1 + 1 + 1, 0, none⟩), .pointer (some ⟨w.heap.size + 1 + 1 + 1 + 1, 0, none⟩)], chV A l.length each x, undef, undef, undef, undef, undef, undef, undef], defers := [] }) ?assign ?body ?done ?stop
  case assign =>
    intro l' x W K hK
    gi_wp2
    exact hK
  case body =>
    rintro l' pre x W ⟨hpl, hI, hO, hN, hB⟩ hlt
    have q1 := hI.cell
    have q2 := hN.cell
    have f2 := hN.frozen
    have q3 := hO.cell
    have f3 := hO.frozen
    have hP := Lib.hid ((hR.grow (Keep.of_below hB)).piece each x)
    have hi9 : i < 100000001 := by have := (chN_lt he).1 hi; have : i ≤ i * each := Nat.le_mul_of_pos_right _ he; omega
    have HI := Lib.hid hI
    have HO := Lib.hid hO
    have HN := Lib.hid hN
    have HB := Lib.hid hB
    clear hI hO hN hB
    by_cases he3 : pre.length = i
    · have ht : (((pre.length : Int)) == (i : Int)) = true := by rw [he3]; exact beq_self_eq_true _
      have h2 : 1 ≤ 3 - 1 - 1 := by omega
      have hpl2 : (pieceL l each x).length ≤ 1000000 := by rw [pieceL_length]; unfold chL; omega
      gi_wp2_with (refine ⟨trivial, ?_⟩; gi_at_call 178; refine (CallsIn.inRound l' (callsIn_wide.2 (clonei_calls (chV A l.length each x) (pieceL l each x) W hP.out hpl2))).mono ?_; rintro e w5 ⟨A5, c5, rfl, ho5, hg5⟩; have q5 := (HO.out.kept (row := none) ⟨hg5.os, hg5.tape, hg5.output, hg5.size, fun k hk _ => hg5.block k hk (fun h => h)⟩ (by simp)).cell; have f5 := (HO.out.kept (row := none) ⟨hg5.os, hg5.tape, hg5.output, hg5.size, fun k hk _ => hg5.block k hk (fun h => h)⟩ (by simp)).frozen; have Ho5 := Lib.hid ho5; have Hg5 := Lib.hid hg5; clear ho5 hg5)
      have hbx := Boxed.set (.slice A5 (pieceL l each x).length c5) (show Boxed w5 (w.heap.size + 1) 37 _ from Grow.heap Hg5.out HO.out)
      have hlast : (pre ++ [x]).getLastD 0 = x := by simp
      have hsw := HB.out.size
      have hlo := HI.out.lt
      have hlo1 := HO.out.lt
      refine ⟨((show KeepsOthers W w5 from ⟨Hg5.out.size, fun k o hk _ => Grow.heap Hg5.out hk⟩).trans (KeepsOthers.setCell _ _ _)).from _, ⟨rfl, by simp [he3]⟩, ⟨_, hbx, ?_, trivial⟩, (HB.out.trans (Hg5.out.below _ hsw (fun _ h => h.elim))).setCell (p := ⟨w.heap.size + 1, 0, none⟩) (by simp) _⟩
      rw [hlast]
      exact own_keep (own_le Ho5.out hsw) ((Keep.refl (fun j => j = w.heap.size + 1) w5).setCell (p := ⟨w.heap.size + 1, 0, none⟩) (.inl rfl) _) (fun k hk e => by have := (Ho5.out.lt k hk).1; omega)
    · have ht : (((pre.length : Int)) == (i : Int)) = false := by rw [beq_eq_false_iff_ne]; omega
      have hw : IntKind.i64.wrap ((pre.length : Int) + 1) = (pre.length : Int) + 1 := IntWalk.i64_in _ (by omega)
      gi_wp2
      refine ⟨(KeepsOthers.setCell _ _ _).from _, (KeepB.refl _ _ _).set (by omega) (by intro k hk; omega) _, by simp; omega, HI.out.other (by omega) _, HO.out.other (by omega) _, by simpa using HN.out.set (.int .i64 (pre.length + 1)), HB.out.setCell (p := ⟨w.heap.size + 1 + 1, 0, none⟩) (by simp; omega) _⟩
  case done =>
    rintro D ys W hD rfl ⟨hl, _⟩ hK
    rw [upto_length] at hl
    omega
  case stop =>
    rintro D c' pre W hD ⟨k, hk, rfl⟩ ⟨⟨rfl, hl⟩, ⟨v, hv, hrow, -⟩, hB⟩ hK
    rw [upto_length] at hl
    subst hl
    rw [upto_last] at hrow
    have hc := hv.cell
    obtain ⟨A5, c5, rfl, _⟩ := own_slice hrow
    gi_wp2
    have hc2 := (hv.kept (grownBy_putObj' W D (.deferred none)) (fun e => by injection e; omega)).cell
    refine ⟨by simp, .inl ⟨_, _, rfl, run_takeDeferred hK, ?_⟩⟩
    refine ⟨_, by rw [results_cell1 rfl]; go_simp, A5, c5, rfl, Keep.of_below (hB.trans (belowK_b (w := w) (Nat.le_refl _) W D _ _ (by omega) hK rfl rfl)), ownsRow_putObj hrow _ hK rfl⟩
end Go.Proofs.YtfkcpaahdlkcdaaGreat
set_option linter.unusedSimpArgs false
set_option linter.unusedVariables false
namespace Go.Proofs.YtfkcpaahdlkcdaaGreat
open Go.RowKit

/-- A chunk's bytes; a page's sizes. -/
def chunkP (a : List (List Int)) (i : Nat) : List Int := pieceL (arenaB a) 64 i
def pageP (l : List Int) (i : Nat) : List Int := pieceL l 4 i
theorem chunkP_in (a : List (List Int)) (i : Nat) : ∀ c ∈ chunkP a i, 0 ≤ c ∧ c ≤ 255 := fun c hc => arenaB_in a c (List.mem_of_mem_drop (List.mem_of_mem_take hc))
theorem chunkP_length (a : List (List Int)) (i : Nat) : (chunkP a i).length ≤ 64 := by unfold chunkP; rw [pieceL_length]; unfold chL; omega
theorem pageP_length (l : List Int) (i : Nat) : (pageP l i).length ≤ 4 := by unfold pageP; rw [pieceL_length]; unfold chL; omega
theorem szs_sum (a : List (List Int)) : (szs a).sum = (a.flatten.length : Nat) := by
  induction a with
  | nil => rfl
  | cons x a ih => simp only [szs, List.map_cons, List.sum_cons, List.flatten_cons, List.length_append] at ih ⊢; omega
theorem chunksN_ch (a : List (List Int)) : chunksN (szs a) = chN (arenaB a).length 64 := by
  unfold chunksN chN
  rw [szs_sum, arenaB_length]
  omega
theorem pagesN_ch (l : List Int) : pagesN l = chN l.length 4 := rfl

set_option maxRecDepth 100000 in
set_option maxHeartbeats 2000000 in
theorem mchunk_calls (a : List (List Int)) (ho : OkA a) (hfit : fitsB (szs a) = true) (hfl : a.flatten.length ≤ 1000000) (i : Nat) (hi : i < chunksN (szs a)) (A : Option Addr) (c : Nat) (w : World) (hR : RowsR .u64 a (.slice A a.length c) w) :
    Calls Tryz.prog 65 #[.slice A a.length c, .int .i64 i] w fun e w' => ∃ A' c', e = .returned (.slice A' (chunkP a i).length c') ∧ Grow w w' ∧ w'.ownsRow w.heap.size 5 1 (.slice A' (chunkP a i).length c') (chunkP a i).length (u8s (chunkP a i)) := by
  have H := Lib.hid hR
  have HO := Lib.hid ho
  have HF := Lib.hid hfit
  clear hR ho hfit
  go_enter Tryz.func65, Tryz.ntmps65
  go_wp2_with fail
  refine (right_calls a _ _ H.out HO.out).mono ?_
  rintro e w1 ⟨rfl, hg⟩
  rw [HF.out]
  have HG := Lib.hid hg
  clear hg
  go_wp2_with fail
  refine (arenab_calls a HO.out hfl A c _ (H.out.grow HG.out)).mono ?_
  rintro e w7 ⟨v7, rfl, hg, hob⟩
  obtain ⟨A7, c7, rfl, _⟩ := own_slice hob
  have HB7 := Lib.hid (SliceR.of_own hob)
  replace HG := Lib.hid (HG.out.grow hg)
  clear hg hob
  have hbl : (arenaB a).length ≤ 100000000 := by rw [arenaB_length]; omega
  rw [chunksN_ch] at hi
  go_wp2_with fail
  refine (pieceb_calls A7 c7 (arenaB a) 64 i (by omega) (by omega) hbl hi w7 HB7.out).mono ?_
  rintro e w8 ⟨A8, c8, rfl, hg, hob⟩
  have hsz := HG.out.size
  replace HG := Lib.hid (HG.out.grow hg)
  have HB8 := Lib.hid (own_le hob hsz)
  clear hg hob hbl
  go_wp2
  go_ret
  exact ⟨A8, c8, rfl, HG.out, HB8.out⟩

set_option maxRecDepth 100000 in
set_option maxHeartbeats 2000000 in
theorem mpage_calls (session : Int) (sum : Nat) (A : Option Addr) (c : Nat) (l : List Int) (w : World) (h : SliceR 1 (.slice A l.length c) l.length (ints l) w) (hf : fitsB l = true) (i : Nat) (hi : i < pagesN l) :
    Calls Tryz.prog 150 #[.agg #[.int .u64 session, .slice A l.length c, .int .u32 (sum : Nat)], .int .i64 i] w fun e w' => ∃ A' c', e = .returned (.slice A' (pageP l i).length c') ∧ Grow w w' ∧ w'.ownsRow w.heap.size 3 1 (.slice A' (pageP l i).length c') (pageP l i).length (ints (pageP l i)) := by
  have HG := Lib.hid ((Keep.refl NoB w).alloc (.cells #[.int .u64 session, .slice A l.length c, .int .u32 (sum : Nat)] 40))
  have H := Lib.hid h
  have HF := Lib.hid hf
  clear h hf
  go_enter Tryz.func150, Tryz.ntmps150
  go_wp2_with fail
  refine (mright_calls session sum A c l _ (H.out.grow HG.out) HF.out).mono ?_
  rintro e w1 ⟨rfl, hg⟩
  have HM := Lib.hid (hg.heap (heap_alloc_new w (.cells #[.int .u64 session, .slice A l.length c, .int .u32 (sum : Nat)] 40)))
  obtain ⟨m0, m1, m2, mf⟩ := cells3 HM.out
  replace HG := Lib.hid (HG.out.grow hg)
  clear hg
  obtain ⟨hl1, hl2, hl3, hl4⟩ := fits_parts HF.out
  clear hl3
  rw [pagesN_ch] at hi
  go_wp2_with fail
  refine (piecei_calls A c l 4 i (by omega) (by omega) (by omega) hi w1 (H.out.grow HG.out)).mono ?_
  rintro e w8 ⟨A8, c8, rfl, hg, hob⟩
  have hsz := HG.out.size
  replace HG := Lib.hid (HG.out.grow hg)
  have HB8 := Lib.hid (own_le hob hsz)
  clear hg hob
  go_wp2
  go_ret
  exact ⟨A8, c8, rfl, HG.out, HB8.out⟩
end Go.Proofs.YtfkcpaahdlkcdaaGreat
set_option linter.unusedSimpArgs false
set_option linter.unusedVariables false
namespace Go.Proofs.YtfkcpaahdlkcdaaGreat
open Go.RowKit

/-- So many bits, none of them set; one bit; with one more. -/
def makeB (n : Nat) : List Int := List.replicate ((n + 7) / 8) 0
def getB (bs : List Int) (i : Nat) : Bool := ((bs.getD (i / 8) 0).toNat).testBit (i % 8)
def setB (bs : List Int) (i : Nat) : List Int := bs.set (i / 8) (((bs.getD (i / 8) 0).toNat ||| 2 ^ (i % 8) : Nat) : Int)
def OkB (bs : List Int) : Prop := ∀ c ∈ bs, 0 ≤ c ∧ c ≤ 255
theorem makeB_length (n : Nat) : (makeB n).length = (n + 7) / 8 := by simp [makeB]
theorem setB_length (bs : List Int) (i : Nat) : (setB bs i).length = bs.length := by simp [setB]
theorem OkB.make (n : Nat) : OkB (makeB n) := by
  intro c hc
  have := List.eq_of_mem_replicate hc
  omega
theorem OkB.getD {bs : List Int} (h : OkB bs) (k : Nat) : 0 ≤ bs.getD k 0 ∧ bs.getD k 0 ≤ 255 := by
  by_cases hk : k < bs.length
  · rw [List.getD_eq_getElem?_getD, List.getElem?_eq_getElem hk]
    exact h _ (List.getElem_mem hk)
  · rw [List.getD_eq_getElem?_getD, List.getElem?_eq_none (by omega)]
    simp
theorem or_lt256 {a : Nat} (h : a < 256) (r : Nat) (hr : r < 8) : a ||| 2 ^ r < 256 :=
  Nat.or_lt_two_pow (n := 8) h (Nat.pow_lt_pow_right (by omega) hr)
theorem OkB.set {bs : List Int} (h : OkB bs) (i : Nat) : OkB (setB bs i) := by
  intro c hc
  rcases List.mem_or_eq_of_mem_set hc with hc | rfl
  · exact h c hc
  · have := h.getD (i / 8)
    have := or_lt256 (a := (bs.getD (i / 8) 0).toNat) (by omega) (i % 8) (by omega)
    omega
theorem getB_make (n i : Nat) : getB (makeB n) i = false := by
  unfold getB makeB
  rw [List.getD_eq_getElem?_getD, List.getElem?_replicate]
  split <;> simp
theorem getB_set (bs : List Int) (i j : Nat) : getB (setB bs i) j = ((decide (j = i ∧ i / 8 < bs.length)) || getB bs j) := by
  unfold getB setB
  by_cases hk : i / 8 < bs.length
  · by_cases he : j / 8 = i / 8
    · rw [he, List.getD_eq_getElem?_getD, List.getElem?_set_self hk]
      simp only [Option.getD_some, Int.toNat_natCast, Nat.testBit_or, Nat.testBit_two_pow]
      by_cases hr : j % 8 = i % 8
      · have : j = i := by omega
        subst this
        simp [hk]
      · have : ¬ (j = i) := by intro e; exact hr (by rw [e])
        have hr2 : ¬ (i % 8 = j % 8) := fun e => hr e.symm
        simp [this, hr2]
    · have : ¬ (j = i) := by intro e; exact he (by rw [e])
      rw [List.getD_eq_getElem?_getD, List.getElem?_set_ne (fun e => he e.symm), ← List.getD_eq_getElem?_getD]
      simp [this]
  · rw [List.set_eq_of_length_le (by omega)]
    simp [hk]

set_option maxRecDepth 100000 in
set_option maxHeartbeats 2000000 in
theorem bmake_calls (n : Nat) (hn : n ≤ 65536) (w : World) :
    Calls Tryz.prog 66 #[.int .i64 n] w fun e w' => ∃ A c, e = .returned (.slice A (makeB n).length c) ∧ Grow w w' ∧ w'.ownsRow w.heap.size 5 1 (.slice A (makeB n).length c) (makeB n).length (u8s (makeB n)) := by
  obtain ⟨ib, hib, hb1, hb2, hb3⟩ : ∃ i, Tryz.prog.info? 5 = some i ∧ i.zero = some (.int .u8 0) ∧ i.size = 1 ∧ i.bytes = 1 := by
    have h := info_u8
    cases hi : Tryz.prog.info? 5 with
    | none => rw [hi] at h; cases h
    | some i =>
      rw [hi] at h
      simp only [Option.map_some, Option.some.injEq, Prod.mk.injEq] at h
      exact ⟨i, rfl, h.1, h.2.1, h.2.2⟩
  rcases Nat.eq_zero_or_pos n with h00 | hn0
  · subst h00
    have hmin : min ((0 : Nat) : Int) 65536 = 0 := by omega
    go_enter Tryz.func66, Tryz.ntmps66
    go_wp2_with fail
    refine (ceil8_calls 0 _ (by omega)).mono ?_
    rintro e w1 ⟨rfl, rfl⟩
    generalize hm : (0 + 7) / 8 = m at *
    go_wp2_with (at_make; refine wpList_make_full _ rfl _ _ _ rfl w.heap.size 5 ib (.int .u8 0) 1 u_bytes hib hb1 hb2 _ _ _ _ m rfl rfl rfl rfl (by rw [hb3]; omega) (by simp [maxLen]; omega) (Nat.le_refl _) ?_; intro w2 hown hgr)
    go_ret
    have h0 : (madeCells (Value.int .u8 0).cells (m * 1)).toList = u8s (List.replicate m 0) := by
      apply List.ext_getElem (by simp [u8s, madeCells, Value.cells])
      intro j h1 h2
      simp [u8s, madeCells, Value.cells, Nat.mod_one]
    rw [h0] at hown
    have hml : (makeB 0).length = m := by rw [makeB_length]; exact hm
    have hme : makeB 0 = List.replicate m 0 := by unfold makeB; rw [hm]
    rw [hml, hme]
    exact ⟨_, m, rfl, (Keep.refl NoB w).grown hgr (by simp), hown⟩
  ·
    have hmin : min ((n : Nat) : Int) 65536 = n := by omega
    go_enter Tryz.func66, Tryz.ntmps66
    go_wp2_with fail
    refine (ceil8_calls n _ (by omega)).mono ?_
    rintro e w1 ⟨rfl, rfl⟩
    generalize hm : (n + 7) / 8 = m at *
    go_wp2_with (at_make; refine wpList_make_full _ rfl _ _ _ rfl w.heap.size 5 ib (.int .u8 0) 1 u_bytes hib hb1 hb2 _ _ _ _ m rfl rfl rfl rfl (by rw [hb3]; omega) (by simp [maxLen]; omega) (Nat.le_refl _) ?_; intro w2 hown hgr)
    go_ret
    have h0 : (madeCells (Value.int .u8 0).cells (m * 1)).toList = u8s (List.replicate m 0) := by
      apply List.ext_getElem (by simp [u8s, madeCells, Value.cells])
      intro j h1 h2
      simp [u8s, madeCells, Value.cells, Nat.mod_one]
    rw [h0] at hown
    have hml : (makeB n).length = m := by rw [makeB_length]; exact hm
    have hme : makeB n = List.replicate m 0 := by unfold makeB; rw [hm]
    rw [hml, hme]
    exact ⟨_, m, rfl, (Keep.refl NoB w).grown hgr (by simp), hown⟩

theorem get_eq (bs : List Int) (hb : OkB bs) (i : Nat) (hk : i / 8 < bs.length) : (bits .and .u8 (bs[i / 8] / 2 ^ (i % 8)) 1 == 1) = getB bs i := by
  have hx := hb _ (List.getElem_mem hk)
  unfold getB
  rw [List.getD_eq_getElem?_getD, List.getElem?_eq_getElem hk, Option.getD_some]
  generalize bs[i / 8] = x at hx ⊢
  obtain ⟨m, rfl⟩ : ∃ m : Nat, x = m := ⟨x.toNat, by omega⟩
  have h2 : ((m : Int) / 2 ^ (i % 8)) = ((m / 2 ^ (i % 8) : Nat) : Int) := by push_cast; rfl
  have hlt : m / 2 ^ (i % 8) < 256 := Nat.lt_of_le_of_lt (Nat.div_le_self ..) (by omega)
  have h1 := u8_and_nat (m / 2 ^ (i % 8)) 1 hlt (by decide)
  rw [Nat.and_one_is_mod] at h1
  rw [h2, show (1 : Int) = ((1 : Nat) : Int) from rfl, h1, Int.toNat_natCast, Nat.testBit_eq_decide_div_mod_eq]
  by_cases h : m / 2 ^ (i % 8) % 2 = 1
  · simp [h]
  · have : ¬ (((m / 2 ^ (i % 8) % 2 : Nat) : Int) = ((1 : Nat) : Int)) := by omega
    rw [beq_eq_false_iff_ne.2 this, decide_eq_false h]

set_option maxRecDepth 100000 in
set_option maxHeartbeats 2000000 in
theorem bget_calls (A : Option Addr) (c : Nat) (bs : List Int) (hb : OkB bs) (i : Nat) (hi : i ≤ 1000000) (w : World) (h : SliceR 1 (.slice A bs.length c) bs.length (u8s bs) w) :
    Calls Tryz.prog 82 #[.slice A bs.length c, .int .i64 i] w fun e w' => e = .returned (.bool (getB bs i)) ∧ w = w' := by
  by_cases hk : i / 8 < bs.length
  · obtain ⟨ad, rfl, q1⟩ := SliceR.int_at (k := .u8) h (i / 8) hk
    have hx := hb _ (List.getElem_mem hk)
    have hk' : ((i / 8 : Nat) : Int) < bs.length := by omega
    have HE := Lib.hid (get_eq bs hb i hk)
    clear h
    go_enter Tryz.func82, Tryz.ntmps82
    go_wp2
    go_ret
    exact ⟨by rw [← HE.out]; rfl, rfl⟩
  · have hk' : ¬ (((i / 8 : Nat) : Int) < bs.length) := by omega
    have HE : Hid (false = getB bs i) := Lib.hid (by
      unfold getB
      rw [List.getD_eq_getElem?_getD, List.getElem?_eq_none (by omega)]
      simp)
    go_enter Tryz.func82, Tryz.ntmps82
    go_wp2
    go_ret
    exact ⟨by rw [← HE.out]; rfl, rfl⟩

theorem set_eq (bs : List Int) (hb : OkB bs) (i : Nat) (hk : i / 8 < bs.length) : bits .or .u8 bs[i / 8] (IntKind.u8.wrap (2 ^ (i % 8))) = (((bs.getD (i / 8) 0).toNat ||| 2 ^ (i % 8) : Nat) : Int) := by
  have hx := hb _ (List.getElem_mem hk)
  rw [List.getD_eq_getElem?_getD, List.getElem?_eq_getElem hk, Option.getD_some]
  generalize bs[i / 8] = x at hx ⊢
  obtain ⟨m, rfl⟩ : ∃ m : Nat, x = m := ⟨x.toNat, by omega⟩
  have hp : 2 ^ (i % 8) < 256 := Nat.pow_lt_pow_right (m := i % 8) (n := 8) (by omega) (by omega)
  have hc : ((2 : Int) ^ (i % 8)) = ((2 ^ (i % 8) : Nat) : Int) := by push_cast; rfl
  have hw : IntKind.u8.wrap ((2 ^ (i % 8) : Nat) : Int) = ((2 ^ (i % 8) : Nat) : Int) := by
    generalize 2 ^ (i % 8) = p at hp
    exact IntWalk.u8_in _ (by omega)
  rw [hc, hw, u8_or_nat m (2 ^ (i % 8)) (by omega) hp, Int.toNat_natCast]
set_option maxRecDepth 100000 in
set_option maxHeartbeats 2000000 in
theorem bset_calls (A : Option Addr) (c : Nat) (bs : List Int) (hb : OkB bs) (hlen : bs.length ≤ 100000) (i : Nat) (hi : i ≤ 1000000) (w : World) (h : SliceR 1 (.slice A bs.length c) bs.length (u8s bs) w) :
    Calls Tryz.prog 121 #[.slice A bs.length c, .int .i64 i] w fun e w' => ∃ A c, e = .returned (.slice A (setB bs i).length c) ∧ Grow w w' ∧ w'.ownsRow w.heap.size 5 1 (.slice A (setB bs i).length c) (setB bs i).length (u8s (setB bs i)) := by
  rw [setB_length]
  have H := Lib.hid h
  have HB := Lib.hid hb
  have hi0 : (0 : Int) ≤ i := by omega
  clear h hb
  go_enter Tryz.func121, Tryz.ntmps121
  go_wp2_with fail
  refine (bclone_calls _ bs w H.out (by omega)).mono ?_
  rintro e w1 ⟨A1, c1, rfl, ho, hg⟩
  have HO := Lib.hid ho
  have HG := Lib.hid hg
  clear ho hg
  by_cases hk : i / 8 < bs.length
  · have hk' : ((i / 8 : Nat) : Int) < bs.length := by omega
    obtain ⟨r, c2, e, _, _, hcs⟩ := own_cells HO.out (by omega)
    injection e with e1 e2 e3
    subst e1
    have q1 : w1.cell? ⟨r, i / 8, none⟩ = some (.int .u8 bs[i / 8]) := by
      have := hcs (i / 8) (.int .u8 bs[i / 8]) (by simp [u8s, hk])
      simpa using this
    have f1 : w1.frozen? ⟨r, i / 8, none⟩ = false := HO.out.frozenAt _
    have hx := HB.out _ (List.getElem_mem hk)
    have HCS := Lib.hid hcs
    clear hcs
    have hwq : IntKind.i64.wrap ((i : Int) / 8) = (i : Int) / 8 := IntWalk.i64_in _ (by omega)
    have hq0 : 0 ≤ (i : Int) / 8 := by omega
    have htm : ((i : Int)).tmod 8 = (i : Int) % 8 := Int.tmod_eq_emod_of_nonneg hi0
    have hr0 : 0 ≤ (i : Int) % 8 := by omega
    have hr8 : (i : Int) % 8 ≤ 8 := by omega
    have hqn : ((i : Int) / 8).toNat = i / 8 := by omega
    have hrn : ((i : Int) % 8).toNat = i % 8 := by omega
    go_wp2
    refine region_ord [0, 1, 2, 3, 4, 5, 6, 7, 8, 9, 10] [10] [4] [10] rfl (by kernel_rfl) ?_
    iterate 4
      refine ord_pure rfl rfl rfl rfl rfl (fun _ _ _ _ h => h) ?_ ?_ ?_ ?_ ?_
      rotate_left 2
      · intro w'; go_simp; with_reducible rfl
      · simp only [Act.put, List.setIfInBounds_toArray, List.set_cons_zero, List.set_cons_succ]; rfl
    refine ord_read rfl rfl rfl rfl rfl (fun _ _ _ _ h => h) ?_ ?_ ?_ ?_ ?_
    rotate_left 2
    · intro w' hg; have q := hg.cell q1 (fun h => h); go_simp; with_reducible rfl
    · simp only [Act.put, List.setIfInBounds_toArray, List.set_cons_zero, List.set_cons_succ]; rfl
    iterate 5
      refine ord_pure rfl rfl rfl rfl rfl (fun _ _ _ _ h => h) ?_ ?_ ?_ ?_ ?_
      rotate_left 2
      · intro w'; go_simp; with_reducible rfl
      · simp only [Act.put, List.setIfInBounds_toArray, List.set_cons_zero, List.set_cons_succ]; rfl
    refine ord_put rfl rfl rfl rfl ?_ ?_ (fun h => absurd (by simp) h) ?_
    rotate_left
    · go_simp; with_reducible rfl
    refine ord_nil ?_
    have hst := HO.out.stored (i / 8) (.int .u8 (bits .or .u8 bs[i / 8] (IntKind.u8.wrap (2 ^ (i % 8)))))
    rw [u8s_set] at hst
    have HS := Lib.hid hst.1
    have hgs := HG.out.setCell (p := ⟨r, i / 8, none⟩) (.inr (HO.out.lt r rfl).1) (.int .u8 (bits .or .u8 bs[i / 8] (IntKind.u8.wrap (2 ^ (i % 8)))))
    have HGS := Lib.hid hgs
    clear hst hgs
    go_wp2
    go_ret
    refine ⟨_, _, rfl, HGS.out.drew, ?_⟩
    unfold setB
    rw [← set_eq bs HB.out i hk, ← e3]
    exact HS.out
  · have hk' : ¬ (((i / 8 : Nat) : Int) < bs.length) := by omega
    go_wp2
    go_ret
    have : setB bs i = bs := List.set_eq_of_length_le (by omega)
    rw [this]
    exact ⟨A1, c1, rfl, HG.out, HO.out⟩
end Go.Proofs.YtfkcpaahdlkcdaaGreat
set_option linter.unusedSimpArgs false
set_option linter.unusedVariables false
namespace Go.Proofs.YtfkcpaahdlkcdaaGreat
open Go.RowKit Go.Shelf
attribute [local go_sem] Oper.semAt_some

/-- The bits of a byte that are set, rising; the least of them. -/
def bitL (c : Nat) : List Nat := (List.range 8).filter (fun j => c.testBit j)
def tzN (c : Nat) : Nat := (bitL c).headD 8
theorem bitL_step : ∀ c : Fin 256, c.1 ≠ 0 → bitL c.1 = tzN c.1 :: bitL (c.1 &&& (c.1 - 1)) := by decide +kernel
theorem bitL_zero : bitL 0 = [] := by decide
theorem tz_lt : ∀ c : Fin 256, tzN c.1 ≤ 8 := by decide +kernel
theorem and_lt {c : Nat} (h : c ≠ 0) : c &&& (c - 1) < c := Nat.lt_of_le_of_lt Nat.and_le_right (by omega)

set_option maxRecDepth 100000 in
set_option maxHeartbeats 2000000 in
theorem tz_calls (c : Nat) (hc : c < 256) (w : World) : Calls Tryz.prog 251 #[.int .u8 c] w fun e w' => e = .returned (.int .i64 (tzN c : Nat)) ∧ w = w' := by
  have h0 : (0 : Int) ≤ c := by omega
  have h1 : (c : Int) ≤ 255 := by omega
  go_enter Tryz.func251, Tryz.ntmps251
  go_wp2
  go_ret
  refine ⟨?_, rfl⟩
  have key : ∀ x : Int, x = (tzN c : Nat) → Ending.returned (Value.int .i64 x) = Ending.returned (.int .i64 (tzN c : Nat)) := by rintro _ rfl; rfl
  refine key _ ?_
  have at_ : ∀ (A : ByteArray) (h : c < A.size), A[c] = A.data.toList.getD c 0 := fun A h => by
    rw [List.getD_eq_getElem?_getD, List.getElem?_eq_getElem (by simpa using h)]
    rfl
  rw [at_]
  clear at_ key
  obtain ⟨d, rfl⟩ : ∃ d : Fin 256, d.1 = c := ⟨⟨c, hc⟩, rfl⟩
  rename_i hx; clear hx h0 h1 hc; revert d
  decide +kernel

/-- The bits that are set, rising. -/
def eachL (bs : List Int) : List Nat := (List.range bs.length).flatMap (fun k => (bitL (bs.getD k 0).toNat).map (fun j => k * 8 + j))
/-- Ahead of byte k. -/
def eachT (bs : List Int) (k : Nat) : List Nat := (List.range k).flatMap (fun k => (bitL (bs.getD k 0).toNat).map (fun j => k * 8 + j))
theorem eachT_succ (bs : List Int) (k : Nat) : eachT bs (k + 1) = eachT bs k ++ (bitL (bs.getD k 0).toNat).map (fun j => k * 8 + j) := by
  simp [eachT, List.range_succ]
theorem eachT_pre (bs : List Int) {k : Nat} (hk : k ≤ bs.length) : eachT bs k <+: eachL bs := by
  unfold eachT eachL
  obtain ⟨m, hm⟩ : ∃ m, bs.length = k + m := ⟨_, (Nat.add_sub_cancel' hk).symm⟩
  rw [hm, List.range_add, List.flatMap_append]
  exact List.prefix_append _ _
theorem each_calls (A : Option Addr) (n c : Nat) (w : World) :
    Calls Tryz.prog 211 #[.slice A n c] w fun e w' => e = .returned (.func (.func 250) #[] #[.pointer (some ⟨w.heap.size, 0, none⟩)]) ∧ w' = w.alloc (.cells #[.slice A n c] 23) := by
  go_enter Tryz.func211, Tryz.ntmps211
  go_wp2
  go_ret
  exact ⟨rfl, rfl⟩
set_option maxRecDepth 100000 in
set_option maxHeartbeats 4000000 in
theorem each1_in (F : Fence) (n : Nat) (h7 : F.fn 250) (h8 : F.fn 251) (hw8 : F = Fence.wide) (hro : F.round = none) (hn : 1 ≤ n) (l Bs : Nat) (bs : List Int) (hb : OkB bs) (hlen : bs.length ≤ 100000) (A : Option Addr) (c : Nat) (Kp : World → World → Prop) (hKt : ∀ {a b c : World}, Kp a b → Kp b c → Kp a c) (w0 : World)
    (hKs : ∀ W, Kp w0 W → SliceR 1 (.slice A bs.length c) bs.length (u8s bs) W) (J Jx : List Nat → World → Prop)
    (hY : ∀ pre x W, J pre W → pre.length < (eachL bs).length → YieldAt F (n - 1) Tryz.prog l #[.int .i64 (x : Nat)] W fun e W' =>
      (e = .returned (.bool true) ∧ J (pre ++ [x]) W' ∧ Kp W W') ∨ (e = .returned (.bool false) ∧ Jx (pre ++ [x]) W'))
    (W : World) (hW : Kp w0 W) (hBs : W.cell? ⟨Bs, 0, none⟩ = some (.slice A bs.length c)) (h0 : J [] W) :
    CallsIn F n Tryz.prog 250 #[.func (.yield l) #[] #[], .pointer (some ⟨Bs, 0, none⟩)] W fun e W' => (∃ v, e = .returned v) ∧
      ((∃ ys, ys = eachL bs ∧ J ys W') ∨ (∃ pre, pre <+: eachL bs ∧ Jx pre W')) := by
  subst hw8
  refine callsIn_of_wp Tryz.func250 rfl h7 ?_ hro
  simp only [Tryz.ntmps250, List.size_toArray, List.length_cons, List.length_nil, Nat.reduceAdd, Nat.reduceSub, Array.replicate_succ, Array.replicate_zero, List.push_toArray, List.append_toArray, List.nil_append, List.cons_append]
  gi_wp2
  gi_loopw [7] (fun q wr => ∃ k : Nat, k ≤ bs.length ∧ q = .int .i64 k ∧ Hid (J (eachT bs k) wr ∧ Kp w0 wr)) (fun q _ => bs.length - (intOf q).toNat)
  case atStart => exact ⟨0, Nat.zero_le _, rfl, h0, hW⟩
  case round =>
    obtain ⟨k, hk, rfl, HJ⟩ := hrel
    by_cases hlt : k < bs.length
    · have hlt' : (k : Int) < bs.length := by omega
      have hw : IntKind.i64.wrap ((k : Int) + 1) = (k : Int) + 1 := IntWalk.i64_in _ (by omega)
      have hw8 : IntKind.i64.wrap ((k : Int) * 8) = (k : Int) * 8 := IntWalk.i64_in _ (by omega)
      obtain ⟨ad, rfl, q0⟩ := SliceR.int_at (k := .u8) (hKs wr HJ.out.2) k hlt
      have hx := hb _ (List.getElem_mem hlt)
      obtain ⟨c0, hc0⟩ : ∃ c0 : Nat, bs[k] = c0 := ⟨bs[k].toNat, by omega⟩
      have hbd : (bs.getD k 0).toNat = c0 := by rw [List.getD_eq_getElem?_getD, List.getElem?_eq_getElem hlt, Option.getD_some, hc0]; rfl
      have Hsu := Lib.hid (eachT_succ bs k)
      rw [hbd] at Hsu
      have Hpre := Lib.hid (eachT_pre bs (show k + 1 ≤ bs.length from hlt))
      rw [hc0] at q0 hx
      clear hc0 hbd
      gi_wp2
      obtain ⟨wo, rfl⟩ : ∃ wo : World, wo = wr := ⟨_, rfl⟩
      clear q0
      gi_loopw [4] (fun q wr => ∃ c1 : Nat, ∃ dn : List Nat, c1 < 256 ∧ q = .int .u8 c1 ∧ Hid (bitL c0 = dn ++ bitL c1) ∧ Hid (J (eachT bs k ++ dn.map (fun j => k * 8 + j)) wr ∧ Kp w0 wr)) (fun q _ => (intOf q).toNat)
      case atStart => exact ⟨c0, [], by omega, rfl, rfl, by simpa using HJ⟩
      case round =>
        clear HJ
        obtain ⟨c1, dn, hc1, rfl, hbd, HJ⟩ := hrel
        by_cases hc : c1 = 0
        · subst hc
          have HJ3 : Hid (J (eachT bs (k + 1)) wr ∧ Kp w0 wr) := by
            rw [Hsu.out, hbd.out, bitL_zero, List.append_nil]
            exact HJ
          gi_wp2
          go_roundw
          case rel => exact ⟨k + 1, by omega, by go_num, HJ3⟩
          case measure => simp [intOf]; omega
        · have hne : ((c1 : Int) == 0) = false := by rw [beq_eq_false_iff_ne]; omega
          have hst := bitL_step ⟨c1, hc1⟩ hc
          have htl := tz_lt ⟨c1, hc1⟩
          dsimp only at hst htl
          have hwt : IntKind.i64.wrap ((k : Int) * 8 + tzN c1) = (k : Int) * 8 + tzN c1 := IntWalk.i64_in _ (by omega)
          have hws : IntKind.u8.wrap ((c1 : Int) - 1) = (c1 : Int) - 1 := IntWalk.u8_in _ (by omega)
          have hand : bits .and .u8 (c1 : Int) ((c1 : Int) - 1) = ((c1 &&& (c1 - 1) : Nat) : Int) := by
            have := u8_and_nat c1 (c1 - 1) hc1 (by omega)
            rw [← this]
            congr 1
            omega
          have hal := and_lt hc
          have hpl : (eachT bs k ++ dn.map (fun j => k * 8 + j)).length < (eachL bs).length := by
            have h1 := Hpre.out.length_le
            rw [Hsu.out, hbd.out, hst] at h1
            simp only [List.length_append, List.length_map, List.length_cons] at h1 ⊢
            omega
          have hp2 : eachT bs k ++ dn.map (fun j => k * 8 + j) ++ [k * 8 + tzN c1] <+: eachL bs := by
            refine List.IsPrefix.trans ?_ Hpre.out
            rw [Hsu.out, hbd.out, hst]
            simp
          obtain ⟨fn, tmps, assign, body, hy, hRR⟩ := hY _ (k * 8 + tzN c1) wr HJ.out.1 hpl
          have hcast : (((k * 8 + tzN c1 : Nat)) : Int) = (k : Int) * 8 + tzN c1 := by push_cast; rfl
          rw [hcast] at hy
          have HRR := Lib.hid hRR
          have HKT := Lib.hid (show ∀ W, Kp wr W → Kp w0 W from fun W h => hKt HJ.out.2 h)
          have HST := Lib.hid hst
          have HP2 := Lib.hid hp2
          have HAND := Lib.hid hand
          clear hRR hst hp2 hpl hcast hand
          gi_wp2_with fail
          refine (callsIn_wide.2 (tz_calls c1 hc1 _)).mono ?_
          rintro e w5 ⟨rfl, rfl⟩
          gi_wp2
          refine HRR.out.mono ?_
          rintro e W3 (⟨rfl, hJ3, hk3⟩ | ⟨rfl, hJx3⟩)
          · have HJ3 : Hid (J (eachT bs k ++ (dn ++ [tzN c1]).map (fun j => k * 8 + j)) W3 ∧ Kp w0 W3) := Lib.hid ⟨by rw [List.map_append, ← List.append_assoc]; exact hJ3, HKT.out _ hk3⟩
            clear hJ3 hk3
            gi_wp2
            go_roundw
            case rel => exact ⟨c1 &&& (c1 - 1), dn ++ [tzN c1], by omega, by rw [HAND.out], Lib.hid (by rw [hbd.out, HST.out]; simp), HJ3⟩
            case measure => rw [HAND.out]; simp [intOf]; omega
          · have HX := Lib.hid hJx3
            clear hJx3
            gi_wp2
            refine bodyPost_ret (results_none rfl _ _ _) rfl ?_
            exact ⟨⟨_, rfl⟩, .inr ⟨_, HP2.out, HX.out⟩⟩
    · obtain rfl : k = bs.length := by omega
      have hlt' : ¬ ((bs.length : Int) < bs.length) := by omega
      have HJ2 := Lib.hid HJ.out.1
      clear HJ
      gi_wp2
      go_end0
      exact ⟨⟨_, rfl⟩, .inl HJ2.out⟩
end Go.Proofs.YtfkcpaahdlkcdaaGreat
set_option linter.unusedSimpArgs false
set_option linter.unusedVariables false
namespace Go.Proofs.YtfkcpaahdlkcdaaGreat
open Go.RowKit Go.Shelf
attribute [local go_sem] Oper.semAt_some

theorem each_stops (bs : List Int) (hb : OkB bs) (hlen : bs.length ≤ 100000) (A : Option Addr) (c : Nat) (w0 : World) (hR : SliceR 1 (.slice A bs.length c) bs.length (u8s bs) w0) (n : Nat) (hn : 1 ≤ n) (Bs : Nat) (w : World) (hw : Below w0.heap.size w0 w)
    (hBs : Boxed w Bs 23 (.slice A bs.length c)) :
    SeqStopsK Fence.wide n Tryz.prog 250 #[.pointer (some ⟨Bs, 0, none⟩)] (fun x : Nat => #[.int .i64 (x : Nat)]) (Below w0.heap.size) (fun ys => ys = eachL bs)
      (fun pre => pre <+: eachL bs) (eachL bs).length w := fun l J Jx W hW _ _ hY h0 =>
  each1_in Fence.wide n trivial trivial rfl rfl hn l Bs bs hb hlen A c (Below w0.heap.size) (fun h k => h.trans k) w0
    (fun W' hK => hR.grow (Keep.of_below hK)) J Jx hY W (hw.trans (hW.mono hw.size)) (Boxed.cell (t := 23) ((hW.block Bs hBs.lt).trans hBs)) h0

/-- The least number that is not among rising ones. -/
def goN : Nat → List Nat → Nat
  | k, [] => k
  | k, i :: r => if k < i then k else goN (k + 1) r
def firstN (bs : List Int) (n : Nat) : Nat := min (goN 0 (eachL bs)) n
theorem goN_le (r : List Nat) : ∀ k, goN k r ≤ k + r.length := by
  induction r with
  | nil => intro k; simp [goN]
  | cons i r ih =>
    intro k
    unfold goN
    split
    · simp
    · have := ih (k + 1); simp at this ⊢; omega
theorem eachT_length (bs : List Int) (k : Nat) : (eachT bs k).length ≤ 8 * k := by
  induction k with
  | zero => simp [eachT]
  | succ k ih =>
    rw [eachT_succ, List.length_append, List.length_map]
    have : (bitL (bs.getD k 0).toNat).length ≤ 8 := by
      unfold bitL
      exact Nat.le_trans (List.length_filter_le _ _) (by simp)
    omega
set_option maxRecDepth 100000 in
set_option maxHeartbeats 4000000 in
theorem bfirst_calls (A : Option Addr) (c : Nat) (bs : List Int) (hb : OkB bs) (hlen : bs.length ≤ 100000) (n : Nat) (hn0 : 0 < n) (hn : n ≤ 65536) (w : World) (hR : SliceR 1 (.slice A bs.length c) bs.length (u8s bs) w) :
    Calls Tryz.prog 147 #[.slice A bs.length c, .int .i64 n] w fun e w' => e = .returned (.int .i64 (firstN bs n : Nat)) ∧ Grow w w' := by
  have hel : (eachL bs).length ≤ 800000 := by have := eachT_length bs bs.length; unfold eachT at this; unfold eachL; omega
  have hmin : min ((n : Nat) : Int) 65536 = n := by omega
  have hn0' : (0 : Int) < n := by omega
  refine (callsIn_wide (n := 3)).1 ?_
  refine callsIn_of_wp_marks Tryz.func147 rfl trivial ?_ rfl
  simp only [Tryz.ntmps147, List.size_toArray, List.length_cons, List.length_nil, Nat.reduceAdd, Nat.reduceSub, Array.replicate_succ, Array.replicate_zero, List.push_toArray, List.append_toArray, List.nil_append, List.cons_append]
  gi_wp2_with (refine ⟨trivial, ?_⟩; gi_at_call 211; refine (callsIn_wide.2 (each_calls A bs.length c _)).mono ?_; rintro e w' ⟨rfl, rfl⟩)
  have bK := Boxed.new w 3 (.int .i64 0)
  have bS := Boxed.new (w.alloc (.cells #[.int .i64 0] 3)) 23 (.slice A bs.length c)
  have c1 := bK.alloc (.cells #[.slice A bs.length c] 23)
  simp only [World.size_alloc] at bS
  have hB0 : Below w.heap.size w ((w.alloc (.cells #[.int .i64 0] 3)).alloc (.cells #[.slice A bs.length c] 23)) := ((Below.refl _ w).alloc (Nat.le_refl _) _).alloc (by simp) _
  obtain ⟨W0, hW0⟩ : ∃ W0, ((w.alloc (.cells #[.int .i64 0] 3)).alloc (.cells #[.slice A bs.length c] 23)) = W0 := ⟨_, rfl⟩
  have hsz : W0.heap.size = w.heap.size + 2 := by rw [← hW0]; simp
  rw [hW0] at c1 bS hB0 ⊢
  clear hW0 bK
  refine wpIn_rangeFunc_ownG rfl (show 1 ≤ 3 by omega) (gf := 250) (lb := #[.pointer (some ⟨w.heap.size + 1, 0, none⟩)]) rfl trivial (enters_of Tryz.func250 (by kernel_rfl) rfl)
    (each_stops bs hb hlen A c w hR _ (by omega) (w.heap.size + 1) W0 hB0 bS) belowK_t (belowK_b (by omega)) (Below.refl _ _) (fun _ => rfl)
    (fun pre W => (∀ rest, goN 0 (pre ++ rest) = goN pre.length rest) ∧ pre.length ≤ 1000000 ∧ Boxed W w.heap.size 3 (.int .i64 pre.length) ∧ Below w.heap.size w W)
    (fun c' pre W => c' = .exit 0 ∧ ∃ k : Nat, (∀ rest, goN 0 (pre ++ rest) = k) ∧ Boxed W w.heap.size 3 (.int .i64 k) ∧ Below w.heap.size w W)
    (fun s W W' row hs hg hr => ⟨hs.1, hs.2.1, hs.2.2.1.kept hg (fun e => by have := (hr _ e.symm).1; omega), ownFrom_below (β := Unit) (Nat.le_refl _) (show w.heap.size ≤ W0.heap.size by omega) () W W' row hs.2.2.2 hg hr⟩)
    (fun c' s W W' row hs hg hr => by obtain ⟨h1, k, h2, h3, h4⟩ := hs; exact ⟨h1, k, h2, h3.kept hg (fun e => by have := (hr _ e.symm).1; omega), ownFrom_below (β := Unit) (Nat.le_refl _) (show w.heap.size ≤ W0.heap.size by omega) () W W' row h4 hg hr⟩)
    ⟨fun _ => rfl, by simp, c1, hB0⟩
    (fun x => { tmps := #[.slice A bs.length c, .int .i64 n, undef, undef, .int .i64 0, .pointer (some ⟨w.heap.size, 0, none⟩), .int .i64 x, .int .i64 n, .int .i64 n, .int .i64 n, .slice A bs.length c, .func (.func 250) #[] #[.pointer (some ⟨w.heap.size + 1, 0, none⟩)], .int .i64 x, undef, undef, undef, undef, undef, undef, undef, undef], defers := [] }) ?assign ?body ?done ?stop
  case assign =>
    intro l' x W K hK
    gi_wp2
    exact hK
  case body =>
    rintro l' pre x W ⟨hgo, hpl, hK, hB⟩ hlt
    have q1 := hK.cell
    have f1 := hK.frozen
    have HK := Lib.hid hK
    have HB := Lib.hid hB
    have HGO := Lib.hid hgo
    clear hK hB hgo
    by_cases hx : pre.length < x
    · have hx' : (pre.length : Int) < x := by omega
      gi_wp2
      refine ⟨(KeepsOthers.refl _).from _, rfl, pre.length, fun rest => ?_, HK.out, HB.out⟩
      rw [List.append_assoc, HGO.out]
      simp [goN, hx]
    · have hx' : ¬ ((pre.length : Int) < x) := by omega
      have hw : IntKind.i64.wrap ((pre.length : Int) + 1) = (pre.length : Int) + 1 := IntWalk.i64_in _ (by omega)
      gi_wp2
      refine ⟨(KeepsOthers.setCell _ _ _).from _, (Below.refl _ _).setCell (p := ⟨w.heap.size, 0, none⟩) (Nat.le_refl _) _, fun rest => ?_, by simp; omega, by simpa using HK.out.set (.int .i64 (pre.length + 1)), HB.out.setCell (p := ⟨w.heap.size, 0, none⟩) (Nat.le_refl _) _⟩
      rw [List.append_assoc, HGO.out]
      simp [goN, hx]
  case done =>
    rintro D ys W hD rfl ⟨hgo, hpl, hK, hB⟩ hKd
    have h1 := hgo []
    rw [List.append_nil] at h1
    have q1 := hK.cell
    have HF : Hid (firstN bs n = min (eachL bs).length n) := Lib.hid (by unfold firstN; rw [h1]; rfl)
    clear hgo h1
    gi_wp2
    all_goals
      refine ⟨by simp, .inl ⟨_, _, rfl, run_takeDeferred hKd, ?_⟩⟩
      refine ⟨_, results_tmp rfl _ _ _, ?_, Keep.of_below (hB.trans (belowK_b (w := w) (Nat.le_refl _) W D _ _ (by omega) hKd rfl rfl))⟩
      rw [HF.out]
      show Ending.returned (Value.int .i64 _) = _
      congr 2
      omega
  case stop =>
    rintro D c' pre W hD hpre ⟨rfl, k, hgo, hK, hB⟩ hKd
    obtain ⟨rest, hrest⟩ := hpre
    have h1 := hgo rest
    rw [hrest] at h1
    have q1 := hK.cell
    have HF : Hid (firstN bs n = min k n) := Lib.hid (by unfold firstN; rw [h1])
    gi_wp2
    all_goals
      refine ⟨by simp, .inl ⟨_, _, rfl, run_takeDeferred hKd, ?_⟩⟩
      refine ⟨_, results_tmp rfl _ _ _, ?_, Keep.of_below (hB.trans (belowK_b (w := w) (Nat.le_refl _) W D _ _ (by omega) hKd rfl rfl))⟩
      rw [HF.out]
      show Ending.returned (Value.int .i64 _) = _
      congr 2
      omega
end Go.Proofs.YtfkcpaahdlkcdaaGreat

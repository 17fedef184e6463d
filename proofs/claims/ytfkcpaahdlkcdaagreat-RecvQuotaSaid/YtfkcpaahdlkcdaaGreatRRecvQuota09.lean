import Derived.Test.YtfkcpaahdlkcdaaGreatRRecvQuota08
set_option linter.unusedSimpArgs false
set_option linter.unusedVariables false
set_option maxRecDepth 100000
set_option maxHeartbeats 16000000
namespace Go.Proofs.YtfkcpaahdlkcdaaGreat
open Go.RowKit
theorem u_int3 : Tryz.prog.underlying 3 = some (.int .i64) := by kernel_rfl
theorem zeros64 (m : Nat) : (Builtin.zeroCells (Value.int .u64 0).cells m).toList = u64s (List.replicate m 0) := by
 apply List.ext_getElem (by simp [Builtin.zeroCells, u64s, Value.cells])
 intro j h1 h2
 simp [Builtin.zeroCells, u64s, Value.cells, Nat.mod_one]
theorem run_appz (w : World) (base : Nat) (ty : TypeId) (v : Value) (n : Nat) (xs : List Value) (hown : w.ownsRow base 22 1 v n xs) (m : Nat) (hnm : n + m ≤ 10000000) (hbase : base ≤ w.heap.size) :
    ∃ v' w', (Builtin.append_ #[111, 3] ty #[v, .int .i64 m]).run Tryz.prog w = .ok v' w' ∧ w'.ownsRow base 22 1 v' (n + m) (xs ++ u64s (List.replicate m 0)) ∧ w.grownBy w' v.ownBlock ∧ (v'.ownBlock = v.ownBlock ∨ v'.ownBlock = some w.heap.size) := by
 obtain ⟨i, hi, hz, hsz, hby⟩ := info_parts info_u64
 have hw : IntKind.i64.wrap (m : Int) = m := IntWalk.i64_in _ (by omega)
 have hw0 : IntKind.i64.wrap 0 = 0 := IntWalk.i64_in _ (by omega)
 have hneg : ¬ ((m : Int) < 0) := by omega
 have hbig : ¬ (281474976710656 < (m : Int) * (i.bytes : Int)) := by rw [hby]; omega
 have ht := u_words
 have hti := u_int3
 have hl : (u64s (List.replicate m 0)).length = m := by simp [u64s]
 have hzz := zeros64 m
 have hna : Builtin.zeroCells (Value.int .u64 0).cells m = (u64s (List.replicate m 0)).toArray := by rw [← hzz]
 have hlen : (xs ++ u64s (List.replicate m 0)).length = (n + m) * 1 := by rw [List.length_append, hown.1, hl]; omega
 have grown : ∀ (old : Nat), old < n + m → ∀ (row : Option Nat),
     (w.drew.alloc (.cells ((xs ++ u64s (List.replicate m 0)).toArray ++ Builtin.zeroCells (Value.int .u64 0).cells (grownCap w (n + m) old 22 - (n + m))) 22)).ownsRow base 22 1
      (.slice (some ⟨w.heap.size, 0, none⟩) (n + m) (grownCap w (n + m) old 22)) (n + m) (xs ++ u64s (List.replicate m 0)) ∧
     w.grownBy (w.drew.alloc (.cells ((xs ++ u64s (List.replicate m 0)).toArray ++ Builtin.zeroCells (Value.int .u64 0).cells (grownCap w (n + m) old 22 - (n + m))) 22)) row := by
  intro old ho row
  have hge := grownCap_ge w (n + m) old 22
  have hcm : grownCap w (n + m) old 22 ≤ maxLen := grownCap_le_maxLen w (n + m) old 22 (by simp [maxLen]; omega)
  refine ⟨⟨hlen, .inr ⟨w.heap.size, _, _, rfl, hbase, heap_alloc_new w.drew _, hge, hcm, ?_, ?_⟩⟩, ⟨rfl, rfl, rfl, by simp, fun k hk _ => Below.heap_alloc w.drew _ k hk⟩⟩
  ·rw [Array.size_append, List.size_toArray, size_zeroCells, hlen]
   simp only [Value.cells, List.size_toArray, List.length_cons, List.length_nil]
   omega
  ·rw [Array.toList_append, ← hlen]
   exact List.take_left
 have runs : ∀ (A : Option Addr) (cap : Nat), cap < n + m → (Builtin.firstCells 1 n (.slice A n cap)).run Tryz.prog w.drew = .ok xs.toArray w.drew → (Builtin.append_ #[111, 3] ty #[.slice A n cap, .int .i64 m]).run Tryz.prog w =
     .ok (.slice (some ⟨w.heap.size, 0, none⟩) (n + m) (grownCap w (n + m) cap 22)) (w.drew.alloc (.cells ((xs ++ u64s (List.replicate m 0)).toArray ++ Builtin.zeroCells (Value.int .u64 0).cells (grownCap w (n + m) cap 22 - (n + m))) 22)) := by
  intro A cap hcap hfo
  have hn : ¬ (n + m ≤ cap) := by omega
  have h63' : ¬ (9223372036854775807 < ((n : Int) + (m : Int))) := by omega
  have hfit := growslice_fits (bytes := i.bytes) hcap (by rw [hby]; omega)
  have h48' : ¬ (281474976710656 < Builtin.nextslicecap (n + m) cap * i.bytes) := by omega
  by_cases hm : m = 0
  ·subst hm
   have hnl : u64s (List.replicate 0 0) = [] := rfl
   rw [hnl]
   simp only [Nat.add_zero] at hn h63' h48' ⊢
   have h63'' : ¬ (9223372036854775807 < (n : Int)) := by omega
   simp [Builtin.append_, run_underlying ht, run_underlying hti, sizeOf, typeInfo, zeroValue, hi, hz, hsz, asInt, asIntOf, hw0, hn, h63'', h48', Question.forced, hfo, newRow, grownCap]
  ·have hmz : ¬ (m = 0) := hm
   simp [Builtin.append_, run_underlying ht, run_underlying hti, sizeOf, typeInfo, zeroValue, hi, hz, hsz, asInt, asIntOf, hw, hneg, hbig, hn, h63', h48', Question.forced, hfo, newRow, grownCap, hmz, hna]
   generalize u64s (List.replicate m 0) = Z
   have e : ∀ Y : Array Value, xs.toArray ++ (Z.toArray ++ Y) = (xs ++ Z).toArray ++ Y := fun Y => by apply Array.ext'; simp
   rw [e]
 rcases hown.2 with ⟨rfl, rfl⟩ | ⟨g, cap, cur, rfl, hbg, hg, hnc, hcm, hcs, htake⟩
 ·have hx : xs = [] := List.eq_nil_of_length_eq_zero (by simpa using hown.1)
  subst hx
  by_cases hm : m = 0
  ·subst hm
   refine ⟨.slice none 0 0, w, ?_, World.ownsRow_nil w base 22 1, ⟨rfl, rfl, rfl, Nat.le_refl _, fun _ _ _ => rfl⟩, Or.inl rfl⟩
   simp [Builtin.append_, run_underlying ht, run_underlying hti, sizeOf, typeInfo, hi, asInt, asIntOf, hw0]
  ·have hgr := grown 0 (by omega) (Value.ownBlock (.slice none 0 0))
   exact ⟨_, _, runs none 0 (by omega) (by simp [Builtin.firstCells]), hgr.1, hgr.2, Or.inr rfl⟩
 ·by_cases hroom : n + m ≤ cap
  ·have hfit : n + (u64s (List.replicate m 0)).length ≤ cur.size := by rw [hl, hcs]; omega
   have hst := run_storeCells_at Tryz.prog g n 22 (u64s (List.replicate m 0)) 0 cur w hg (by simpa using hfit) (u64s_one _)
   simp only [Nat.add_zero] at hst
   refine ⟨_, _, ?_, ⟨hlen, .inr ⟨g, cap, _, rfl, hbg, setRow_heap w g cur (cur.toList.take n ++ u64s (List.replicate m 0) ++ cur.toList.drop (n + (u64s (List.replicate m 0)).length)).toArray 22 _ hg, hroom, hcm, ?_, ?_⟩⟩, ⟨rfl, rfl, rfl, by simp, fun k _ hk => setRow_other w g k _ (fun e => hk (by simp [Value.ownBlock, e]))⟩, .inl rfl⟩
   ·by_cases hm : m = 0
    ·subst hm
     have hnl : u64s (List.replicate 0 0) = [] := rfl
     rw [hnl] at hst ⊢
     simp at hst
     simp [Builtin.append_, run_underlying ht, run_underlying hti, sizeOf, typeInfo, hi, hsz, asInt, asIntOf, hw0, hnc, Addr.add_lit, hst]
    ·simp [Builtin.append_, run_underlying ht, run_underlying hti, sizeOf, typeInfo, zeroValue, hi, hz, hsz, asInt, asIntOf, hw, hneg, hbig, hroom, hm, hna, Addr.add_lit, hst]
   ·simp only [List.size_toArray, List.length_append, List.length_take, List.length_drop, Array.length_toList]
    omega
   ·have h6 : cur.toList.take n = xs := by simpa using htake
    rw [h6, ← hlen]
    exact List.take_left
  ·have holds : ∀ j u, xs[j]? = some u → w.cell? ((⟨g, 0, none⟩ : Addr).add j) = some u := hown.cells (g := g) rfl
   have hgr := grown cap (by omega) (Value.ownBlock (.slice (some ⟨g, 0, none⟩) n cap))
   exact ⟨_, _, runs (some ⟨g, 0, none⟩) cap (by omega) (run_firstCells_some (P := Tryz.prog) w.drew 1 n _ n cap xs (by simpa using hown.1) (by simpa using holds)), hgr.1, hgr.2, Or.inr rfl⟩
theorem wpList_run {P : Program} {ops : Array Oper} {rest : List Oper} {o : Oper} {a : Act} {w : World} {Q : Exit → Act → World → Prop} (hgd : o.guard = none) (s x : Operand) (t tx : TypeId)
    (ho : o.op = .call { callee := .builtin .append, args := #[s, x], argTypes := #[t, tx] }) (v xv : Value) (hv : a.eval s = v) (hx : a.eval x = xv) (v' : Value) (w' : World) (hr : (Builtin.append_ #[t, tx] o.type #[v, xv]).run P w = .ok v' w')
    (h : wpList P ops Q rest (a.put o.dst v') w') : wpList P ops Q (o :: rest) a w :=
 wpList_plain hgd fun _ hK => by
  unfold Oper.wp execOp
  simp only [ho, resolve, invoke, builtin, Sem.run_bind, Sem.run_pure, Result.andThen_ok, List.map_toArray, List.map_cons, List.map_nil, hv, hx, hr]
  exact hK _ _ h
def needN (k : Int) (nw nb nk : Nat) : Nat := if k = 1 then nw + nk else if k = 2 then nw + nk + (nb + 7) / 8 else 0
theorem rneed_calls (k s : Int) (A1 A2 A3 : Option Addr) (nw nb nk c1 c2 c3 : Nat) (h1 : nw ≤ 10000000) (h2 : nb ≤ 10000000) (h3 : nk ≤ 10000000) (w : World) :
    Calls Tryz.prog 193 #[.agg #[.int .i64 k, .int .i64 s, .slice A1 nw c1, .slice A2 nb c2, .slice A3 nk c3]] w fun e w' => e = .returned (.int .i64 (needN k nw nb nk : Nat)) ∧ Grow w w' := by
 have HG := LH ((Keep.refl NoB w).alloc (.cells #[.int .i64 k, .int .i64 s, .slice A1 nw c1, .slice A2 nb c2, .slice A3 nk c3] 114))
 by_cases hk1 : k = 1
 ·subst hk1
  have hw : IntKind.i64.wrap ((nw : Int) + nk) = (nw : Int) + nk := IntWalk.i64_in _ (by omega)
  go_enter Tryz.func193, Tryz.ntmps193
  go_wp2
  go_ret
  exact ⟨ret_i (by unfold needN; simp), HG.out⟩
 ·by_cases hk2 : k = 2
  ·subst hk2
   have hw : IntKind.i64.wrap ((nw : Int) + nk) = (nw : Int) + nk := IntWalk.i64_in _ (by omega)
   have hw2 : IntKind.i64.wrap ((nb : Int) + 7) = (nb : Int) + 7 := IntWalk.i64_in _ (by omega)
   have hw3 : IntKind.i64.wrap ((nw : Int) + nk + ((nb : Int) + 7) / 8) = (nw : Int) + nk + ((nb : Int) + 7) / 8 := IntWalk.i64_in _ (by omega)
   have hw4 : 0 ≤ (nb : Int) + 7 := by omega
   go_enter Tryz.func193, Tryz.ntmps193
   go_wp2
   go_ret
   exact ⟨ret_i (by unfold needN; simp), HG.out⟩
  ·have hb1 : (k == 1) = false := beq_eq_false_iff_ne.2 hk1
   have hb2 : (k == 2) = false := beq_eq_false_iff_ne.2 hk2
   have HZ : Hid (((needN k nw nb nk : Nat) : Int) = 0) := LH (by unfold needN; rw [if_neg hk1, if_neg hk2]; rfl)
   clear hk1 hk2
   go_enter Tryz.func193, Tryz.ntmps193
   go_wp2
   go_ret
   exact ⟨ret_i HZ.out.symm, HG.out⟩
def SomeW (w : World) (e : Ending) (w' : World) : Prop := ∃ x : Int, e = .returned (.int .u64 x) ∧ 0 ≤ x ∧ x ≤ 18446744073709551615 ∧ Grow w w'
theorem rfar_calls (seg i : Int) (w : World) : Calls Tryz.prog 197 #[.int .i64 seg, .int .i64 i] w (SomeW w) := by
 go_enter Tryz.func197, Tryz.ntmps197
 go_wp2_with fail
 refine (renc_calls ⟨3, i, 0, 0, 0, 0, seg, false⟩ _).mono ?_
 rintro e w' ⟨x, r, rfl, h0, h1, hg⟩
 have HG := LH hg
 clear hg
 go_wp2
 go_ret
 exact ⟨x, rfl, h0, h1, HG.out⟩
theorem rnear8_calls (k s off : Int) (A1 A2 A3 : Option Addr) (nw nb nk c1 c2 c3 : Nat) (h1 : nw ≤ 10000000) (h2 : nb ≤ 10000000) (h3 : nk ≤ 10000000) (w : World) :
    Calls Tryz.prog 195 #[.agg #[.int .i64 k, .int .i64 s, .slice A1 nw c1, .slice A2 nb c2, .slice A3 nk c3], .int .i64 off] w (SomeW w) := by
 by_cases hk2 : k = 2
 ·subst hk2
  have hw : IntKind.i64.wrap ((nw : Int) + nk) = (nw : Int) + nk := IntWalk.i64_in _ (by omega)
  have hw3 : IntKind.i64.wrap ((nw : Int) + nk + nb) = (nw : Int) + nk + nb := IntWalk.i64_in _ (by omega)
  go_enter Tryz.func195, Tryz.ntmps195
  go_wp2_with fail
  refine (renc_calls ⟨2, off, 0, 0, s, (nw : Int) + nk + nb, 0, false⟩ _).mono ?_
  rintro e w' ⟨x, r, rfl, h0, h1, hg⟩
  have HG := LH ((((Keep.refl NoB w).alloc _).alloc _).grow hg)
  clear hg
  go_wp2
  go_ret
  exact ⟨x, rfl, h0, h1, HG.out⟩
 ·have hb2 : (k == 2) = false := beq_eq_false_iff_ne.2 hk2
  clear hk2
  go_enter Tryz.func195, Tryz.ntmps195
  go_wp2_with fail
  refine (renc_calls ⟨k, off, nw, nk, 0, 0, 0, false⟩ _).mono ?_
  rintro e w' ⟨x, r, rfl, h0, h1, hg⟩
  have HG := LH ((((Keep.refl NoB w).alloc _).alloc _).grow hg)
  clear hg
  go_wp2
  go_ret
  exact ⟨x, rfl, h0, h1, HG.out⟩
theorem rget_calls (A : Option Addr) (c : Nat) (l : List Int) (hl : l.length ≤ 10000000) (hb : ∀ x ∈ l, 0 ≤ x ∧ x ≤ 255) (w : World) (hR : SliceR 1 (.slice A l.length c) l.length (u8s l) w) :
    Calls Tryz.prog 242 #[.slice A l.length c] w fun e w' => ∃ x : Int, e = .returned (.int .u64 x) ∧ 0 ≤ x ∧ x ≤ 18446744073709551615 ∧ w = w' := by
 have HR := LH hR
 have HB := LH hb
 clear hR hb
 rcases Nat.lt_or_ge 8 l.length with h8 | h8
 ·have h8' : (8 : Int) < l.length := by omega
  go_enter Tryz.func242, Tryz.ntmps242
  go_wp2
  go_loopw [3, 4] (fun a i wr => wr = w ∧ ∃ (k : Nat) (x : Int), k ≤ 8 ∧ i = .int .i64 ((k : Int) - 1) ∧ a = .int .u64 x ∧ 0 ≤ x ∧ x ≤ 18446744073709551615) (fun _ i _ => (intOf i + 1).toNat)
  case atStart => exact ⟨rfl, 8, 0, Nat.le_refl _, rfl, rfl, by omega, by omega⟩
  case round =>
   obtain ⟨rfl, k, x, hk, rfl, rfl, h0, h1⟩ := hrel
   by_cases hlt : 1 ≤ k
   ·obtain ⟨ad, rfl, hcell⟩ := SliceR.int_at (k := .u8) HR.out (k - 1) (by omega)
    have hcb := HB.out _ (List.getElem_mem (show k - 1 < l.length by omega))
    obtain ⟨b, hbb⟩ : ∃ b, l[k - 1]'(by omega) = b := ⟨_, rfl⟩
    rw [hbb] at hcell hcb
    obtain ⟨j, hj⟩ : ∃ j, k - 1 = j := ⟨_, rfl⟩
    rw [hj] at hcell
    have HJ := LH hj
    have e1 : (k : Int) - 1 = j := by omega
    rw [e1]
    have hlt2 : (j : Int) < l.length := by omega
    have hw2 : IntKind.i64.wrap ((j : Int) - 1) = (j : Int) - 1 := IntWalk.i64_in _ (by omega)
    have hjm : j ≤ 8 := by omega
    clear hbb hj e1 hlt
    go_wp2
    go_roundw
    case rel => exact ⟨trivial, j, _, hjm, rfl, rfl, (u64_bd _).1, (u64_bd _).2⟩
    case measure => simp [intOf]
   ·obtain rfl : k = 0 := by omega
    go_wp2
    go_ret
    exact ⟨x, rfl, h0, h1, rfl⟩
 ·have h8' : ¬ (8 : Int) < l.length := by omega
  have hw : IntKind.i64.wrap ((l.length : Int) - 1) = (l.length : Int) - 1 := IntWalk.i64_in _ (by omega)
  go_enter Tryz.func242, Tryz.ntmps242
  go_wp2
  go_loopw [3, 4] (fun a i wr => wr = w ∧ ∃ (k : Nat) (x : Int), k ≤ l.length ∧ i = .int .i64 ((k : Int) - 1) ∧ a = .int .u64 x ∧ 0 ≤ x ∧ x ≤ 18446744073709551615) (fun _ i _ => (intOf i + 1).toNat)
  case atStart => exact ⟨rfl, l.length, 0, Nat.le_refl _, rfl, rfl, by omega, by omega⟩
  case round =>
   obtain ⟨rfl, k, x, hk, rfl, rfl, h0, h1⟩ := hrel
   by_cases hlt : 1 ≤ k
   ·obtain ⟨ad, rfl, hcell⟩ := SliceR.int_at (k := .u8) HR.out (k - 1) (by omega)
    have hcb := HB.out _ (List.getElem_mem (show k - 1 < l.length by omega))
    obtain ⟨b, hbb⟩ : ∃ b, l[k - 1]'(by omega) = b := ⟨_, rfl⟩
    rw [hbb] at hcell hcb
    obtain ⟨j, hj⟩ : ∃ j, k - 1 = j := ⟨_, rfl⟩
    rw [hj] at hcell
    have HJ := LH hj
    have e1 : (k : Int) - 1 = j := by omega
    rw [e1]
    have hlt2 : (j : Int) < l.length := by omega
    have hw2 : IntKind.i64.wrap ((j : Int) - 1) = (j : Int) - 1 := IntWalk.i64_in _ (by omega)
    have hjm : j ≤ l.length := by omega
    clear hbb hj e1 hlt
    go_wp2
    go_roundw
    case rel => exact ⟨trivial, j, _, hjm, rfl, rfl, (u64_bd _).1, (u64_bd _).2⟩
    case measure => simp [intOf]
   ·obtain rfl : k = 0 := by omega
    go_wp2
    go_ret
    exact ⟨x, rfl, h0, h1, rfl⟩
theorem SliceR.sub8 {A : Option Addr} {c : Nat} {l : List Int} {w : World} (h : SliceR 1 (.slice A l.length c) l.length (u8s l) w) (K L : Nat) (hK : K + L ≤ l.length) (c' : Nat) (hc : L ≤ c') (hc0 : A = none → c' = 0) : SliceR 1 (.slice (A.map fun ad => ad.add K) ((l.drop K).take L).length c') ((l.drop K).take L).length (u8s ((l.drop K).take L)) w := by
 obtain ⟨A', c2, e, hcc, hl, hA, hq⟩ := h
 injection e with e1 e2 e3
 subst e1; subst e3
 have hpl : ((l.drop K).take L).length = L := by simp; omega
 refine ⟨_, _, by rw [hpl], by rw [hpl]; exact hc, by simp [u8s], fun h => ?_, fun j u hu => ?_⟩
 ·cases A with
  | none => exact hc0 rfl
  | some ad => simp at h
 ·have hj : j < L := by have := (List.getElem?_eq_some_iff.1 hu).1; simp [u8s] at this; omega
  have hu2 : (u8s l)[K + j]? = some u := by
   rw [← hu]
   simp [u8s, List.getElem?_take, hj]
  obtain ⟨ad, rfl, hcell⟩ := hq _ _ hu2
  exact ⟨_, rfl, by rw [Addr.add_add]; exact hcell⟩
theorem rget_sub {ad : Addr} {c n : Nat} {l : List Int} {w : World} (hn : l.length = n) (hn2 : n ≤ 100000) (h : SliceR 1 (.slice (some ad) n c) n (u8s l) w) (hb : ∀ x ∈ l, 0 ≤ x ∧ x ≤ 255) (K L : Nat) (hK : K + L ≤ n) (hc : L ≤ c - K) :
    Calls Tryz.prog 242 #[.slice (some (ad.add K)) L (c - K)] w fun e w' => ∃ x : Int, e = .returned (.int .u64 x) ∧ 0 ≤ x ∧ x ≤ 18446744073709551615 ∧ w = w' := by
 subst hn
 have hs := SliceR.sub8 h K L hK (c - K) hc (fun e => by cases e)
 have hl : ((l.drop K).take L).length = L := by simp; omega
 have := rget_calls (some (ad.add K)) (c - K) ((l.drop K).take L) (by rw [hl]; omega) (fun x hx => hb x (List.mem_of_mem_drop (List.mem_of_mem_take hx))) w hs
 rw [hl] at this
 exact this
def okW (l : List Int) : Prop := ∀ x ∈ l, 0 ≤ x ∧ x ≤ 18446744073709551615
theorem okW.snoc {l : List Int} {x : Int} (h : okW l) (h0 : 0 ≤ x) (h1 : x ≤ 18446744073709551615) : okW (l ++ [x]) := fun y hy => by
 rcases List.mem_append.1 hy with e | e
 ·exact h y e
 ·rw [List.mem_singleton.1 e]; exact ⟨h0, h1⟩
theorem rcontent_calls (k s : Int) (ws bs : List Int) (nk : Nat) (A1 A2 A3 : Option Addr) (c1 c2 c3 : Nat) (h1 : ws.length ≤ 100000) (h2 : bs.length ≤ 100000) (h3 : nk ≤ 100000) (hw1 : okW ws) (hb1 : ∀ x ∈ bs, 0 ≤ x ∧ x ≤ 255) (w : World) (hW : SliceR 1 (.slice A1 ws.length c1) ws.length (u64s ws) w) (hB : SliceR 1 (.slice A2 bs.length c2) bs.length (u8s bs) w) :
    Calls Tryz.prog 198 #[.agg #[.int .i64 k, .int .i64 s, .slice A1 ws.length c1, .slice A2 bs.length c2, .slice A3 nk c3]] w fun e w' => ∃ l A c, e = .returned (.slice A l.length c) ∧ l.length = ws.length + (bs.length + 7) / 8 + nk ∧ okW l ∧ Grow w w' ∧ SliceR 1 (.slice A l.length c) l.length (u64s l) w' := by
 have hga := (Keep.refl NoB w).alloc (.cells #[.int .i64 k, .int .i64 s, .slice A1 ws.length c1, .slice A2 bs.length c2, .slice A3 nk c3] 114)
 have HC := LH (heap_alloc_new w (.cells #[.int .i64 k, .int .i64 s, .slice A1 ws.length c1, .slice A2 bs.length c2, .slice A3 nk c3] 114))
 have HG := LH hga
 have HSW := LH ((hW.grow hga).src (P := Tryz.prog) (tx := 111) u_words (u64s_one _))
 have HB := LH (hB.grow hga)
 have HOLD := LH hB
 have HW1 := LH hw1
 have HB1 := LH hb1
 obtain ⟨nw, hnw⟩ : ∃ nw, ws.length = nw := ⟨_, rfl⟩
 obtain ⟨nb, hnb⟩ : ∃ nb, bs.length = nb := ⟨_, rfl⟩
 have hcb : nb ≤ c2 := by
  obtain ⟨_, _, e, h, _⟩ := hB
  injection e with _ _ e
  omega
 have hA0 : A2 = none → c2 = 0 := by
  obtain ⟨_, _, e, _, _, h, _⟩ := hB
  injection e with e1 _ e
  rw [e1, e]; exact h
 have HA0 := LH hA0
 have HNW := LH hnw
 have HNB := LH hnb
 rw [hnw] at HC HG HSW HB h1 ⊢
 rw [hnb] at HC HG HSW HB HOLD h2 ⊢
 clear hga hW hB hw1 hb1 hnw hnb hA0
 go_enter Tryz.func198, Tryz.ntmps198
 go_wp2_with (at_builtin; refine wpList_app _ rfl _ _ 111 111 rfl w.heap.size 22 (.int .u64 0) 1 8 u_words info_u64 rfl (.slice none 0 0) 0 [] rfl (.slice A1 nw c1) nw (u64s ws) rfl ?_ ?c0 ?c1 ?c2 ?c3 ?c4; intro v' w2 hap; refine Hid.out ?_)
 case c0 => exact World.ownsRow_nil _ _ _ _
 case c1 => exact HSW.out
 case c2 => simp only [maxLen]; omega
 case c3 => omega
 case c4 => simp
 refine LH ?_
 have ho := hap.own
 simp only [Nat.zero_add, List.nil_append] at ho
 have hgx := HG.out.grown hap.grew (by simp [Value.ownBlock])
 have hgy := (Keep.refl NoB (w.alloc (.cells #[.int .i64 k, .int .i64 s, .slice A1 nw c1, .slice A2 nb c2, .slice A3 nk c3] 114))).grown hap.grew (by simp [Value.ownBlock])
 have HC2 := LH (Grow.heap hgy HC.out)
 have HB2 := LH (HB.out.grow hgy)
 obtain ⟨Av, cv, rfl, _⟩ := own_slice ho
 have HO := LH ho
 have HG2 := LH hgx
 have hge : ∀ j, (Value.slice Av nw cv).ownBlock = some j → j ≠ w.heap.size := fun j hj e => by
  rcases of_append hap j hj with h | h
  ·simp [Value.ownBlock] at h
  ·have : j = w.heap.size + 1 := by simpa using h
   omega
 have HGE := LH hge
 clear hap ho hgx hgy HC HB HG hge HSW
 go_wp2
 go_loopw [3, 4] (fun a i wr => ∃ (j : Nat) (l : List Int) (A : Option Addr) (c : Nat), 8 * j ≤ nb + 7 ∧ i = .int .i64 (8 * j : Nat) ∧ a = .slice A (nw + j) c ∧ Hid (l.length = nw + j ∧ okW l ∧ wr.ownsRow w.heap.size 22 1 (.slice A (nw + j) c) (nw + j) (u64s l) ∧ Grow w wr ∧ wr.heap[w.heap.size]? = some (.cells #[.int .i64 k, .int .i64 s, .slice A1 nw c1, .slice A2 nb c2, .slice A3 nk c3] 114 (0, 0)) ∧ SliceR 1 (.slice A2 nb c2) nb (u8s bs) wr ∧ ∀ j2, (Value.slice A (nw + j) c).ownBlock = some j2 → j2 ≠ w.heap.size)) (fun _ i _ => nb - (intOf i).toNat)
 case atStart => exact ⟨0, ws, Av, cv, by omega, rfl, rfl, HNW.out, HW1.out, HO.out, HG2.out, HC2.out, HB2.out, HGE.out⟩
 case round =>
  clear HO HG2 HC2 HB2 HGE
  obtain ⟨j, l, A, c, hj, rfl, rfl, HH⟩ := hrel
  obtain ⟨d0, d1, d2, d3, d4, df⟩ := cells5 HH.out.2.2.2.2.1
  obtain ⟨K, hK⟩ : ∃ K, 8 * j = K := ⟨_, rfl⟩
  rw [hK]
  have HK := LH hK
  by_cases hlt : K < nb
  ·have hlt' : (K : Int) < nb := by omega
   have hw8 : IntKind.i64.wrap ((K : Int) + 8) = (K : Int) + 8 := IntWalk.i64_in _ (by omega)
   obtain ⟨ad, rfl⟩ : ∃ ad, A2 = some ad := by
    cases A2 with
    | none => have := HA0.out rfl; omega
    | some ad => exact ⟨ad, rfl⟩
   have hne : ¬ (c2 = K) := by omega
   clear hK
   by_cases hq : nb < K + 8
   ·have hq' : (nb : Int) < (K : Int) + 8 := by omega
    have hin : 0 ≤ (K : Int) ∧ (K : Int) ≤ nb := by omega
    have hin2 : (nb : Int) ≤ c2 := by omega
    have HGT := LH (rget_sub (l := bs) HNB.out h2 HH.out.2.2.2.2.2.1 HB1.out K (nb - K) (by omega) (by omega))
    go_wp2_with fail
    refine HGT.out.mono ?_
    rintro e w5 ⟨x, rfl, hx0, hx1, rfl⟩
    have HX : Hid (0 ≤ x ∧ x ≤ 18446744073709551615) := LH ⟨hx0, hx1⟩
    clear hx0 hx1
    go_wp2_with (at_builtin; refine wpList_app _ rfl _ _ 111 111 rfl w.heap.size 22 (.int .u64 0) 1 8 u_words info_u64 rfl (.slice A (nw + j) c) (nw + j) (u64s l) rfl (.slice (some ⟨wr.heap.size, 0, none⟩) 1 1) 1 [.int .u64 x] rfl ?_ ?e0 ?e1 ?e2 ?e3 ?e4; intro v' w6 hap; refine Hid.out ?_)
    case e0 => exact own_keep HH.out.2.2.1 ((Keep.refl NoB _).alloc _) (fun _ _ h => h)
    case e1 => exact Src.ofSlice _ u_words ⟨wr.heap.size, 0, none⟩ 1 1 _ rfl (World.news_of_block (cs := #[.int .u64 x]) (t := 22) (fr := (0, 0)) (heap_alloc_new wr _)) (by simp [Value.oneCell'])
    case e2 => simp only [maxLen]; omega
    case e3 => omega
    case e4 => have := HH.out.2.2.2.1.size; simp; omega
    refine LH ?_
    obtain ⟨A', c', rfl, _⟩ := own_slice hap.own
    have hkk : Keep (fun j2 => (Value.slice A (nw + j) c).ownBlock = some j2) wr w6 := ((Keep.refl _ wr).alloc _).grown hap.grew (fun k hk => .inl hk)
    have hbl := (gE HH.out.2.2.2.2.1).1
    have HH6 : Hid ((l ++ [x]).length = nw + (j + 1) ∧ okW (l ++ [x]) ∧ w6.ownsRow w.heap.size 22 1 (.slice A' (nw + (j + 1)) c') (nw + (j + 1)) (u64s (l ++ [x])) ∧ Grow w w6 ∧ w6.heap[w.heap.size]? = some (.cells #[.int .i64 k, .int .i64 s, .slice A1 nw c1, .slice (some ad) nb c2, .slice A3 nk c3] 114 (0, 0)) ∧ SliceR 1 (.slice (some ad) nb c2) nb (u8s bs) w6 ∧ ∀ j2, (Value.slice A' (nw + (j + 1)) c').ownBlock = some j2 → j2 ≠ w.heap.size) := by
     refine LH ⟨by rw [List.length_append, HH.out.1]; rfl, HH.out.2.1.snoc HX.out.1 HX.out.2, ?_, HH.out.2.2.2.1.trans hkk (fun i hi => .inr (HH.out.2.2.1.lt i hi).1), (hkk.block _ hbl (fun e => HH.out.2.2.2.2.2.2 _ e rfl)).trans HH.out.2.2.2.2.1, HOLD.out.grow (HH.out.2.2.2.1.trans hkk (fun i hi => .inr (HH.out.2.2.1.lt i hi).1)), fun j2 hj2 => ?_⟩
     ·have := hap.own
      rwa [show u64s (l ++ [x]) = u64s l ++ [.int .u64 x] from by simp [u64s]]
     ·rcases of_append hap j2 hj2 with h | h
      ·exact HH.out.2.2.2.2.2.2 j2 h
      ·have : j2 = wr.heap.size + 1 := by simpa using h
       omega
    clear hap hkk d0 d1 d2 d3 d4 df
    go_wp2
    go_roundw
    case rel => exact ⟨j + 1, l ++ [x], A', c', by have := HK.out; omega, by rw [show 8 * (j + 1) = K + 8 from by have := HK.out; omega]; go_num, rfl, HH6.out⟩
    case measure => simp [intOf]; omega
   ·have hq' : ¬ (nb : Int) < (K : Int) + 8 := by omega
    have hin : 0 ≤ (K : Int) ∧ (K : Int) ≤ (K : Int) + 8 := by omega
    have hin2 : (K : Int) + 8 ≤ c2 := by omega
    have HGT := LH (rget_sub (l := bs) HNB.out h2 HH.out.2.2.2.2.2.1 HB1.out K 8 (by omega) (by omega))
    go_wp2_with fail
    refine HGT.out.mono ?_
    rintro e w5 ⟨x, rfl, hx0, hx1, rfl⟩
    have HX : Hid (0 ≤ x ∧ x ≤ 18446744073709551615) := LH ⟨hx0, hx1⟩
    clear hx0 hx1
    go_wp2_with (at_builtin; refine wpList_app _ rfl _ _ 111 111 rfl w.heap.size 22 (.int .u64 0) 1 8 u_words info_u64 rfl (.slice A (nw + j) c) (nw + j) (u64s l) rfl (.slice (some ⟨wr.heap.size, 0, none⟩) 1 1) 1 [.int .u64 x] rfl ?_ ?e0 ?e1 ?e2 ?e3 ?e4; intro v' w6 hap; refine Hid.out ?_)
    case e0 => exact own_keep HH.out.2.2.1 ((Keep.refl NoB _).alloc _) (fun _ _ h => h)
    case e1 => exact Src.ofSlice _ u_words ⟨wr.heap.size, 0, none⟩ 1 1 _ rfl (World.news_of_block (cs := #[.int .u64 x]) (t := 22) (fr := (0, 0)) (heap_alloc_new wr _)) (by simp [Value.oneCell'])
    case e2 => simp only [maxLen]; omega
    case e3 => omega
    case e4 => have := HH.out.2.2.2.1.size; simp; omega
    refine LH ?_
    obtain ⟨A', c', rfl, _⟩ := own_slice hap.own
    have hkk : Keep (fun j2 => (Value.slice A (nw + j) c).ownBlock = some j2) wr w6 := ((Keep.refl _ wr).alloc _).grown hap.grew (fun k hk => .inl hk)
    have hbl := (gE HH.out.2.2.2.2.1).1
    have HH6 : Hid ((l ++ [x]).length = nw + (j + 1) ∧ okW (l ++ [x]) ∧ w6.ownsRow w.heap.size 22 1 (.slice A' (nw + (j + 1)) c') (nw + (j + 1)) (u64s (l ++ [x])) ∧ Grow w w6 ∧ w6.heap[w.heap.size]? = some (.cells #[.int .i64 k, .int .i64 s, .slice A1 nw c1, .slice (some ad) nb c2, .slice A3 nk c3] 114 (0, 0)) ∧ SliceR 1 (.slice (some ad) nb c2) nb (u8s bs) w6 ∧ ∀ j2, (Value.slice A' (nw + (j + 1)) c').ownBlock = some j2 → j2 ≠ w.heap.size) := by
     refine LH ⟨by rw [List.length_append, HH.out.1]; rfl, HH.out.2.1.snoc HX.out.1 HX.out.2, ?_, HH.out.2.2.2.1.trans hkk (fun i hi => .inr (HH.out.2.2.1.lt i hi).1), (hkk.block _ hbl (fun e => HH.out.2.2.2.2.2.2 _ e rfl)).trans HH.out.2.2.2.2.1, HOLD.out.grow (HH.out.2.2.2.1.trans hkk (fun i hi => .inr (HH.out.2.2.1.lt i hi).1)), fun j2 hj2 => ?_⟩
     ·have := hap.own
      rwa [show u64s (l ++ [x]) = u64s l ++ [.int .u64 x] from by simp [u64s]]
     ·rcases of_append hap j2 hj2 with h | h
      ·exact HH.out.2.2.2.2.2.2 j2 h
      ·have : j2 = wr.heap.size + 1 := by simpa using h
       omega
    clear hap hkk d0 d1 d2 d3 d4 df
    go_wp2
    go_roundw
    case rel => exact ⟨j + 1, l ++ [x], A', c', by have := HK.out; omega, by rw [show 8 * (j + 1) = K + 8 from by have := HK.out; omega]; go_num, rfl, HH6.out⟩
    case measure => simp [intOf]; omega
  ·have hlt' : ¬ ((K : Int) < nb) := by omega
   have HJ : Hid (j = (nb + 7) / 8) := LH (by omega)
   clear hK
   obtain ⟨v', w', hr, ho, hg, hat⟩ := run_appz wr w.heap.size 111 (.slice A (nw + j) c) (nw + j) (u64s l) HH.out.2.2.1 nk (by omega) HH.out.2.2.2.1.size
   have HR := LH hr
   have HFIN : Hid ((l ++ List.replicate nk 0).length = nw + (nb + 7) / 8 + nk ∧ okW (l ++ List.replicate nk 0) ∧ Grow w w' ∧ ∃ A c, v' = .slice A (l ++ List.replicate nk 0).length c ∧ SliceR 1 (.slice A (l ++ List.replicate nk 0).length c) (l ++ List.replicate nk 0).length (u64s (l ++ List.replicate nk 0)) w') := by
    have hl : (l ++ List.replicate nk (0 : Int)).length = nw + j + nk := by rw [List.length_append, HH.out.1, List.length_replicate]
    have hkk : Keep (fun j2 => (Value.slice A (nw + j) c).ownBlock = some j2) wr w' := (Keep.refl _ wr).grown hg (fun k hk => .inl hk)
    obtain ⟨A9, c9, rfl, _⟩ := own_slice ho
    refine LH ⟨by rw [hl, HJ.out], fun x hx => ?_, HH.out.2.2.2.1.trans hkk (fun i hi => .inr (HH.out.2.2.1.lt i hi).1), A9, c9, by rw [hl], ?_⟩
    ·rcases List.mem_append.1 hx with e | e
     ·exact HH.out.2.1 x e
     ·rw [List.eq_of_mem_replicate e]; omega
    ·rw [hl]
     have := SliceR.of_own ho
     rwa [show u64s (l ++ List.replicate nk 0) = u64s l ++ u64s (List.replicate nk 0) from by simp [u64s]]
   clear hr ho hg hat
   obtain ⟨A9, c9, hv9, hs9⟩ := HFIN.out.2.2.2
   subst hv9
   have HS9 := LH hs9
   clear hs9
   go_wp2_with (at_builtin; refine wpList_run rfl _ _ _ _ rfl _ _ rfl rfl _ w' HR.out ?_)
   go_ret
   exact ⟨_, A9, c9, by simp, HFIN.out.1, HFIN.out.2.1, HFIN.out.2.2.1, HS9.out⟩
def RDeepAt (l : Nat) : Prop := ∀ (t : Tr) (vw vb vk : Value) (w : World), TrR w t vw vb vk → TrB t →
 Calls Tryz.prog 143 #[.agg #[.int .i64 t.kind, .int .i64 t.size, vw, vb, vk], .int .i64 l] w fun e w' => e = .returned (.bool (rightB l t)) ∧ Grow w w'
theorem right_null {l : Nat} {t : Tr} (hk : t.kind = 0) : rightB l t = ownT t := by
 cases l with
 | zero => simp [rightB, hk]
 | succ l =>
  unfold rightB
  rcases ho : ownT t with _ | _
  ·rfl
  ·rw [own_null ho hk]; rfl
theorem right_bad {l : Nat} {t : Tr} (ho : ownT t = false) : rightB l t = false := by
 cases l <;> simp [rightB, ho]
theorem rdeep_null (l : Nat) (t : Tr) (vw vb vk : Value) (w : World) (h : TrR w t vw vb vk) (hb : TrB t) (hk0 : t.kind = 0) : Calls Tryz.prog 143 #[.agg #[.int .i64 t.kind, .int .i64 t.size, vw, vb, vk], .int .i64 l] w fun e w' => e = .returned (.bool (rightB l t)) ∧ Grow w w' := by
 obtain ⟨A1, c1, A2, c2, A3, c3, rfl, rfl, rfl⟩ := h.parts
 obtain ⟨k, hk9⟩ : ∃ k, t.kind = k := ⟨_, rfl⟩
 obtain ⟨s, hs9⟩ : ∃ s, t.size = s := ⟨_, rfl⟩
 obtain ⟨nw, hnw⟩ : ∃ nw, t.ws.length = nw := ⟨_, rfl⟩
 obtain ⟨nb, hnb⟩ : ∃ nb, t.bs.length = nb := ⟨_, rfl⟩
 obtain ⟨nk, hnk⟩ : ∃ nk, t.kids.length = nk := ⟨_, rfl⟩
 have b1 := hb.w
 have b2 := hb.b
 have b3 := hb.k
 have HRT : Hid (rightB l t = (s == 0 && ((nw : Int) + nb + nk == 0))) := LH (by
  rw [right_null hk0]
  unfold ownT ownB
  rw [if_pos hk0, hs9, hnw, hnb, hnk]
  congr 1
  rw [Bool.eq_iff_iff, beq_iff_eq, beq_iff_eq]
  omega)
 rw [hk0, hs9, hnw, hnb, hnk]
 rw [hnw] at b1
 rw [hnb] at b2
 rw [hnk] at b3
 clear h hb hk9 hs9 hnw hnb hnk hk0
 have hw1 : IntKind.i64.wrap ((nw : Int) + nb) = (nw : Int) + nb := IntWalk.i64_in _ (by omega)
 have hw2 : IntKind.i64.wrap ((nw : Int) + nb + nk) = (nw : Int) + nb + nk := IntWalk.i64_in _ (by omega)
 have HG := LH ((Keep.refl NoB w).alloc (.cells #[.int .i64 0, .int .i64 s, .slice A1 nw c1, .slice A2 nb c2, .slice A3 nk c3] 114))
 rcases hs0 : (s == 0) with _ | _
 ·rw [hs0] at HRT
  go_enter Tryz.func143, Tryz.ntmps143
  go_wp2
  go_ret
  exact ⟨by rw [HRT.out]; rfl, HG.out⟩
 ·rw [hs0] at HRT
  go_enter Tryz.func143, Tryz.ntmps143
  go_wp2
  go_ret
  exact ⟨by rw [HRT.out]; rfl, HG.out⟩
theorem rdeep_bad1 (l : Nat) (t : Tr) (vw vb vk : Value) (w : World) (h : TrR w t vw vb vk) (hb : TrB t) (ho : ownT t = false) (hk0 : t.kind = 1) : Calls Tryz.prog 143 #[.agg #[.int .i64 t.kind, .int .i64 t.size, vw, vb, vk], .int .i64 l] w fun e w' => e = .returned (.bool (rightB l t)) ∧ Grow w w' := by
 obtain ⟨A1, c1, A2, c2, A3, c3, rfl, rfl, rfl⟩ := h.parts
 obtain ⟨k, hk9⟩ : ∃ k, t.kind = k := ⟨_, rfl⟩
 obtain ⟨s, hs9⟩ : ∃ s, t.size = s := ⟨_, rfl⟩
 obtain ⟨nw, hnw⟩ : ∃ nw, t.ws.length = nw := ⟨_, rfl⟩
 obtain ⟨nb, hnb⟩ : ∃ nb, t.bs.length = nb := ⟨_, rfl⟩
 obtain ⟨nk, hnk⟩ : ∃ nk, t.kids.length = nk := ⟨_, rfl⟩
 have b1 := hb.w
 have b2 := hb.b
 have b3 := hb.k
 have HRT : Hid (rightB l t = false) := LH (right_bad ho)
 have hown : ownB 1 s nw nb nk = false := by
  unfold ownT at ho
  rw [hs9, hnw, hnb, hnk, hk0] at ho
  exact ho
 have HOWN : Hid (¬ (s = 0 ∧ nb = 0 ∧ nw ≤ 100 ∧ nk ≤ 100)) := LH (fun hc => by obtain ⟨rfl, rfl, h3, h4⟩ := hc; simp [ownB, show max nw nk ≤ 100 from by omega] at hown)
 rw [hk0, hs9, hnw, hnb, hnk]
 rw [hnw] at b1
 rw [hnb] at b2
 rw [hnk] at b3
 clear h hb hk9 hs9 hnw hnb hnk hk0 ho hown
 have HG := LH ((Keep.refl NoB w).alloc (.cells #[.int .i64 1, .int .i64 s, .slice A1 nw c1, .slice A2 nb c2, .slice A3 nk c3] 114))
 rcases ht0 : (s == 0) with _ | _
 ·go_enter Tryz.func143, Tryz.ntmps143
  go_wp2
  go_ret
  exact ⟨by rw [HRT.out]; rfl, (Keep.refl NoB w).alloc _⟩
 ·skip
  rcases ht1 : decide ((nw : Int) ≤ 100) with _ | _
  ·go_enter Tryz.func143, Tryz.ntmps143
   go_wp2
   go_ret
   exact ⟨by rw [HRT.out]; rfl, (Keep.refl NoB w).alloc _⟩
  ·skip
   rcases ht2 : ((nb : Int) == 0) with _ | _
   ·go_enter Tryz.func143, Tryz.ntmps143
    go_wp2
    go_ret
    exact ⟨by rw [HRT.out]; rfl, (Keep.refl NoB w).alloc _⟩
   ·skip
    rcases ht3 : decide ((nk : Int) ≤ 100) with _ | _
    ·go_enter Tryz.func143, Tryz.ntmps143
     go_wp2
     go_ret
     exact ⟨by rw [HRT.out]; rfl, (Keep.refl NoB w).alloc _⟩
    ·skip
     have := beq_iff_eq.1 ht0
     have := of_decide_eq_true ht1
     have := beq_iff_eq.1 ht2
     have := of_decide_eq_true ht3
     exfalso
     exact HOWN.out (by omega)
theorem rdeep_bad2 (l : Nat) (t : Tr) (vw vb vk : Value) (w : World) (h : TrR w t vw vb vk) (hb : TrB t) (ho : ownT t = false) (hk0 : t.kind = 2) : Calls Tryz.prog 143 #[.agg #[.int .i64 t.kind, .int .i64 t.size, vw, vb, vk], .int .i64 l] w fun e w' => e = .returned (.bool (rightB l t)) ∧ Grow w w' := by
 obtain ⟨A1, c1, A2, c2, A3, c3, rfl, rfl, rfl⟩ := h.parts
 obtain ⟨k, hk9⟩ : ∃ k, t.kind = k := ⟨_, rfl⟩
 obtain ⟨s, hs9⟩ : ∃ s, t.size = s := ⟨_, rfl⟩
 obtain ⟨nw, hnw⟩ : ∃ nw, t.ws.length = nw := ⟨_, rfl⟩
 obtain ⟨nb, hnb⟩ : ∃ nb, t.bs.length = nb := ⟨_, rfl⟩
 obtain ⟨nk, hnk⟩ : ∃ nk, t.kids.length = nk := ⟨_, rfl⟩
 have b1 := hb.w
 have b2 := hb.b
 have b3 := hb.k
 have HRT : Hid (rightB l t = false) := LH (right_bad ho)
 have hown : ownB 2 s nw nb nk = false := by
  unfold ownT at ho
  rw [hs9, hnw, hnb, hnk, hk0] at ho
  exact ho
 have HOWN : Hid (¬ ((s = 2 ∧ nw = 0 ∧ nk = 0 ∧ nb ≤ 4096) ∨ (s = 5 ∧ nb = 0 ∧ nk = 0 ∧ nw ≤ 4096) ∨ (s = 6 ∧ nb = 0 ∧ nw = 0 ∧ nk ≤ 4096))) := LH (fun hc => by rcases hc with ⟨rfl, rfl, rfl, h3⟩ | ⟨rfl, rfl, rfl, h3⟩ | ⟨rfl, rfl, rfl, h3⟩ <;> simp [ownB, h3] at hown)
 rw [hk0, hs9, hnw, hnb, hnk]
 rw [hnw] at b1
 rw [hnb] at b2
 rw [hnk] at b3
 clear h hb hk9 hs9 hnw hnb hnk hk0 ho hown
 have HG := LH ((Keep.refl NoB w).alloc (.cells #[.int .i64 2, .int .i64 s, .slice A1 nw c1, .slice A2 nb c2, .slice A3 nk c3] 114))
 by_cases hs : s = 2
 ·subst hs
  have o5 : ((2 : Int) == 5) = false := rfl
  have o6 : ((2 : Int) == 6) = false := rfl
  rcases ht0 : ((nw : Int) == 0) with _ | _
  ·go_enter Tryz.func143, Tryz.ntmps143
   go_wp2
   go_ret
   exact ⟨by rw [HRT.out]; rfl, (Keep.refl NoB w).alloc _⟩
  ·skip
   rcases ht1 : ((nk : Int) == 0) with _ | _
   ·go_enter Tryz.func143, Tryz.ntmps143
    go_wp2
    go_ret
    exact ⟨by rw [HRT.out]; rfl, (Keep.refl NoB w).alloc _⟩
   ·skip
    rcases ht2 : decide ((nb : Int) ≤ 4096) with _ | _
    ·go_enter Tryz.func143, Tryz.ntmps143
     go_wp2
     go_ret
     exact ⟨by rw [HRT.out]; rfl, (Keep.refl NoB w).alloc _⟩
    ·skip
     have := beq_iff_eq.1 ht0
     have := beq_iff_eq.1 ht1
     have := of_decide_eq_true ht2
     exfalso
     exact HOWN.out (by omega)
 by_cases hs5 : s = 5
 ·clear hs
  subst hs5
  have o2 : ((5 : Int) == 2) = false := rfl
  have o6 : ((5 : Int) == 6) = false := rfl
  rcases ht0 : ((nb : Int) == 0) with _ | _
  ·go_enter Tryz.func143, Tryz.ntmps143
   go_wp2
   go_ret
   exact ⟨by rw [HRT.out]; rfl, (Keep.refl NoB w).alloc _⟩
  ·skip
   rcases ht1 : ((nk : Int) == 0) with _ | _
   ·go_enter Tryz.func143, Tryz.ntmps143
    go_wp2
    go_ret
    exact ⟨by rw [HRT.out]; rfl, (Keep.refl NoB w).alloc _⟩
   ·skip
    rcases ht2 : decide ((nw : Int) ≤ 4096) with _ | _
    ·go_enter Tryz.func143, Tryz.ntmps143
     go_wp2
     go_ret
     exact ⟨by rw [HRT.out]; rfl, (Keep.refl NoB w).alloc _⟩
    ·skip
     have := beq_iff_eq.1 ht0
     have := beq_iff_eq.1 ht1
     have := of_decide_eq_true ht2
     exfalso
     exact HOWN.out (by omega)
 by_cases hs6 : s = 6
 ·clear hs hs5
  subst hs6
  have o2 : ((6 : Int) == 2) = false := rfl
  have o5 : ((6 : Int) == 5) = false := rfl
  rcases ht0 : ((nb : Int) == 0) with _ | _
  ·go_enter Tryz.func143, Tryz.ntmps143
   go_wp2
   go_ret
   exact ⟨by rw [HRT.out]; rfl, (Keep.refl NoB w).alloc _⟩
  ·skip
   rcases ht1 : ((nw : Int) == 0) with _ | _
   ·go_enter Tryz.func143, Tryz.ntmps143
    go_wp2
    go_ret
    exact ⟨by rw [HRT.out]; rfl, (Keep.refl NoB w).alloc _⟩
   ·skip
    rcases ht2 : decide ((nk : Int) ≤ 4096) with _ | _
    ·go_enter Tryz.func143, Tryz.ntmps143
     go_wp2
     go_ret
     exact ⟨by rw [HRT.out]; rfl, (Keep.refl NoB w).alloc _⟩
    ·skip
     have := beq_iff_eq.1 ht0
     have := beq_iff_eq.1 ht1
     have := of_decide_eq_true ht2
     exfalso
     exact HOWN.out (by omega)
 have o2 : (s == 2) = false := beq_eq_false_iff_ne.2 hs
 have o5 : (s == 5) = false := beq_eq_false_iff_ne.2 hs5
 have o6 : (s == 6) = false := beq_eq_false_iff_ne.2 hs6
 clear hs hs5 hs6
 go_enter Tryz.func143, Tryz.ntmps143
 go_wp2
 go_ret
 exact ⟨by rw [HRT.out]; rfl, (Keep.refl NoB w).alloc _⟩
theorem rdeep_badk (l : Nat) (t : Tr) (vw vb vk : Value) (w : World) (h : TrR w t vw vb vk) (hb : TrB t) (ho : ownT t = false) (hk0 : t.kind ≠ 0 ∧ t.kind ≠ 1 ∧ t.kind ≠ 2) : Calls Tryz.prog 143 #[.agg #[.int .i64 t.kind, .int .i64 t.size, vw, vb, vk], .int .i64 l] w fun e w' => e = .returned (.bool (rightB l t)) ∧ Grow w w' := by
 obtain ⟨A1, c1, A2, c2, A3, c3, rfl, rfl, rfl⟩ := h.parts
 obtain ⟨k, hk9⟩ : ∃ k, t.kind = k := ⟨_, rfl⟩
 obtain ⟨s, hs9⟩ : ∃ s, t.size = s := ⟨_, rfl⟩
 obtain ⟨nw, hnw⟩ : ∃ nw, t.ws.length = nw := ⟨_, rfl⟩
 obtain ⟨nb, hnb⟩ : ∃ nb, t.bs.length = nb := ⟨_, rfl⟩
 obtain ⟨nk, hnk⟩ : ∃ nk, t.kids.length = nk := ⟨_, rfl⟩
 have b1 := hb.w
 have b2 := hb.b
 have b3 := hb.k
 have HRT : Hid (rightB l t = false) := LH (right_bad ho)
 have hown : ownB k s nw nb nk = false := by
  unfold ownT at ho
  rw [hs9, hnw, hnb, hnk, hk9] at ho
  exact ho
 have HOWN : Hid (True) := LH (trivial)
 rw [hk9] at hk0
 rw [hk9, hs9, hnw, hnb, hnk]
 rw [hnw] at b1
 rw [hnb] at b2
 rw [hnk] at b3
 have kb1 : (k == 1) = false := beq_eq_false_iff_ne.2 (by omega)
 have kb2 : (k == 2) = false := beq_eq_false_iff_ne.2 (by omega)
 have kb0 : (k == 0) = false := beq_eq_false_iff_ne.2 (by omega)
 clear h hb hk9 hs9 hnw hnb hnk hk0 ho hown
 have HG := LH ((Keep.refl NoB w).alloc (.cells #[.int .i64 k, .int .i64 s, .slice A1 nw c1, .slice A2 nb c2, .slice A3 nk c3] 114))
 go_enter Tryz.func143, Tryz.ntmps143
 go_wp2
 go_ret
 exact ⟨by rw [HRT.out]; rfl, (Keep.refl NoB w).alloc _⟩
def allR (l : Nat) (rows : List (Tr × Value × Value × Value)) : Bool := (rows.map (·.1)).all (rightB l)
theorem rdeep_10 (l : Nat) (ih : RDeepAt l) (hl : l ≤ 1000) (rows : List (Tr × Value × Value × Value)) (A1 A2 A3 : Option Addr) (c1 c2 c3 nw : Nat) (hw : nw ≤ 100) (hk : rows.length ≤ 100) (w : World) (h : SliceR 5 (.slice A3 rows.length c3) rows.length (kcs rows) w) (hr : ∀ r, r ∈ rows → TrR w r.1 r.2.1 r.2.2.1 r.2.2.2) (hb : ∀ r, r ∈ rows → TrB r.1) :
    Calls Tryz.prog 143 #[.agg #[.int .i64 1, .int .i64 0, .slice A1 nw c1, .slice A2 0 c2, .slice A3 rows.length c3], .int .i64 (l + 1 : Nat)] w fun e w' => e = .returned (.bool (allR l rows)) ∧ Grow w w' := by
 have IH := LH ih
 have H := LH h
 have HR := LH hr
 have HB := LH hb
 clear ih h hr hb
 have hwi : (nw : Int) ≤ 100 := by omega
 have hki : (rows.length : Int) ≤ 100 := by omega
 have hll : ((l + 1 : Nat) : Int) ≠ 0 := by omega
 have hle : (((l + 1 : Nat) : Int) == 0) = false := beq_eq_false_iff_ne.2 hll
 obtain ⟨l1, hl1⟩ : ∃ l1, l + 1 = l1 := ⟨_, rfl⟩
 rw [hl1] at hll hle ⊢
 have hwl : IntKind.i64.wrap ((l1 : Int) - 1) = (l : Int) := by rw [IntWalk.i64_in _ (by omega)]; omega
 clear hl1 hll
 have hga := (Keep.refl NoB w).alloc (.cells #[.int .i64 1, .int .i64 0, .slice A1 nw c1, .slice A2 0 c2, .slice A3 rows.length c3] 114)
 have HG := LH hga
 have HC := LH (heap_alloc_new w (.cells #[.int .i64 1, .int .i64 0, .slice A1 nw c1, .slice A2 0 c2, .slice A3 rows.length c3] 114))
 clear hga
 go_enter Tryz.func143, Tryz.ntmps143
 go_wp2
 go_loopw [9] (fun v wr => ∃ k : Nat, k ≤ rows.length ∧ v = .int .i64 k ∧ Hid (Grow w wr ∧ ((rows.map (·.1)).take k).all (rightB l) = true ∧ wr.heap[w.heap.size]? = some (.cells #[.int .i64 1, .int .i64 0, .slice A1 nw c1, .slice A2 0 c2, .slice A3 rows.length c3] 114 (0, 0)))) (fun v _ => rows.length - (intOf v).toNat)
 case atStart => exact ⟨0, by omega, rfl, HG.out, by simp, HC.out⟩
 case round =>
  obtain ⟨k, hk2, rfl, HS⟩ := hrel
  obtain ⟨d0, d1, d2, d3, d4, df⟩ := cells5 HS.out.2.2
  by_cases hlt : k < rows.length
  ·have hlt' : (k : Int) < rows.length := by omega
   have hw3 : IntKind.i64.wrap ((k : Int) + 1) = (k : Int) + 1 := IntWalk.i64_in _ (by omega)
   obtain ⟨ad, rfl, q0, q1, q2, q3, q4⟩ := kid_cells (H.out.grow HS.out.1) k hlt
   have hT := LH ((HR.out _ (List.getElem_mem hlt)).grow HS.out.1)
   have hTB := LH (HB.out _ (List.getElem_mem hlt))
   obtain ⟨B1, g1, B2, g2, B3, g3, e1, e2, e3⟩ := hT.out.parts
   rw [e1] at q2
   rw [e2] at q3
   rw [e3] at q4
   have hR1 := IH.out rows[k].1 _ _ _ wr hT.out hTB.out
   rw [e1, e2, e3] at hR1
   have HR1 := LH hR1
   have hget : ((rows.map (·.1)).take (k + 1)).all (rightB l) = (((rows.map (·.1)).take k).all (rightB l) && rightB l rows[k].1) := by
    rw [List.take_succ_eq_append_getElem (by simpa using hlt), List.all_append]
    simp
   have Hget := LH hget
   have Hmem : Hid (rightB l rows[k].1 = false → allR l rows = false) := LH (fun hf => by
    unfold allR
    rw [List.all_eq_false]
    exact ⟨rows[k].1, List.mem_map.2 ⟨_, List.getElem_mem hlt, rfl⟩, by simp [hf]⟩)
   clear hR1 hget e1 e2 e3
   go_wp2_with fail
   refine HR1.out.mono ?_
   rintro e w2 ⟨rfl, hg⟩
   have HG2 := LH (HS.out.1.grow hg)
   have HC2 := LH (Grow.heap hg HS.out.2.2)
   clear hg
   cases hok : rightB l rows[k].1 with
   | false =>
    have Hall := LH (Hmem.out hok)
    clear hok
    go_wp2
    go_ret
    exact ⟨by rw [Hall.out]; rfl, HG2.out⟩
   | true =>
    have Hall : Hid (((rows.map (·.1)).take (k + 1)).all (rightB l) = true) := LH (by rw [Hget.out, HS.out.2.1, hok]; rfl)
    clear hok
    go_wp2
    go_roundw
    case rel => exact ⟨k + 1, by omega, by go_num, HG2.out, Hall.out, HC2.out⟩
    case measure => simp [intOf]; omega
  ·obtain rfl : k = rows.length := by omega
   have hlt' : ¬ ((rows.length : Int) < rows.length) := by omega
   have hall := HS.out.2.1
   rw [List.take_of_length_le (by simp)] at hall
   have Hall : Hid (allR l rows = true) := LH hall
   clear hall
   go_wp2
   go_ret
   exact ⟨by rw [Hall.out]; rfl, HS.out.1⟩
theorem rdeepz_10 (A1 A2 A3 : Option Addr) (c1 c2 c3 nw nk : Nat) (hw : nw ≤ 100) (hk : nk ≤ 100) (w : World) :
    Calls Tryz.prog 143 #[.agg #[.int .i64 1, .int .i64 0, .slice A1 nw c1, .slice A2 0 c2, .slice A3 nk c3], .int .i64 0] w fun e w' => e = .returned (.bool false) ∧ Grow w w' := by
 have hwi : (nw : Int) ≤ 100 := by omega
 have hki : (nk : Int) ≤ 100 := by omega
 go_enter Tryz.func143, Tryz.ntmps143
 go_wp2
 go_ret
 exact ⟨rfl, (Keep.refl NoB w).alloc _⟩
theorem rdeep_22 (l : Nat) (ih : RDeepAt l) (hl : l ≤ 1000) (rows : List (Tr × Value × Value × Value)) (A1 A2 A3 : Option Addr) (c1 c2 c3 nb : Nat) (hw : nb ≤ 4096) (h0 : rows.length = 0) (w : World) (h : SliceR 5 (.slice A3 rows.length c3) rows.length (kcs rows) w) (hr : ∀ r, r ∈ rows → TrR w r.1 r.2.1 r.2.2.1 r.2.2.2) (hb : ∀ r, r ∈ rows → TrB r.1) :
    Calls Tryz.prog 143 #[.agg #[.int .i64 2, .int .i64 2, .slice A1 0 c1, .slice A2 nb c2, .slice A3 rows.length c3], .int .i64 (l + 1 : Nat)] w fun e w' => e = .returned (.bool (allR l rows)) ∧ Grow w w' := by
 have IH := LH ih
 have H := LH h
 have HR := LH hr
 have HB := LH hb
 clear ih h hr hb
 have hbi : (nb : Int) ≤ 4096 := by omega
 have hll : ((l + 1 : Nat) : Int) ≠ 0 := by omega
 have hle : (((l + 1 : Nat) : Int) == 0) = false := beq_eq_false_iff_ne.2 hll
 obtain ⟨l1, hl1⟩ : ∃ l1, l + 1 = l1 := ⟨_, rfl⟩
 rw [hl1] at hll hle ⊢
 have hwl : IntKind.i64.wrap ((l1 : Int) - 1) = (l : Int) := by rw [IntWalk.i64_in _ (by omega)]; omega
 clear hl1 hll
 have o5 : ((2 : Int) == 5) = false := rfl
 have o6 : ((2 : Int) == 6) = false := rfl
 have HZ := LH h0
 obtain rfl : rows = [] := List.eq_nil_of_length_eq_zero h0
 clear h0
 have hga := (Keep.refl NoB w).alloc (.cells #[.int .i64 2, .int .i64 2, .slice A1 0 c1, .slice A2 nb c2, .slice A3 0 c3] 114)
 have HG := LH hga
 have HC := LH (heap_alloc_new w (.cells #[.int .i64 2, .int .i64 2, .slice A1 0 c1, .slice A2 nb c2, .slice A3 0 c3] 114))
 clear hga
 go_enter Tryz.func143, Tryz.ntmps143
 go_wp2
 go_loopw [9] (fun v wr => v = .int .i64 0 ∧ wr = w.alloc (.cells #[.int .i64 2, .int .i64 2, .slice A1 0 c1, .slice A2 nb c2, .slice A3 0 c3] 114)) (fun v _ => 0)
 case atStart => exact ⟨rfl, rfl⟩
 case round =>
  obtain ⟨rfl, rfl⟩ := hrel
  go_wp2
  go_ret
  exact ⟨rfl, HG.out⟩
theorem rdeepz_22 (A1 A2 A3 : Option Addr) (c1 c2 c3 nb  : Nat) (hw : nb ≤ 4096) (w : World) :
    Calls Tryz.prog 143 #[.agg #[.int .i64 2, .int .i64 2, .slice A1 0 c1, .slice A2 nb c2, .slice A3 0 c3], .int .i64 0] w fun e w' => e = .returned (.bool false) ∧ Grow w w' := by
 have hbi : (nb : Int) ≤ 4096 := by omega
 have o5 : ((2 : Int) == 5) = false := rfl
 have o6 : ((2 : Int) == 6) = false := rfl
 go_enter Tryz.func143, Tryz.ntmps143
 go_wp2
 go_ret
 exact ⟨rfl, (Keep.refl NoB w).alloc _⟩
theorem rdeep_25 (l : Nat) (ih : RDeepAt l) (hl : l ≤ 1000) (rows : List (Tr × Value × Value × Value)) (A1 A2 A3 : Option Addr) (c1 c2 c3 nw : Nat) (hw : nw ≤ 4096) (h0 : rows.length = 0) (w : World) (h : SliceR 5 (.slice A3 rows.length c3) rows.length (kcs rows) w) (hr : ∀ r, r ∈ rows → TrR w r.1 r.2.1 r.2.2.1 r.2.2.2) (hb : ∀ r, r ∈ rows → TrB r.1) :
    Calls Tryz.prog 143 #[.agg #[.int .i64 2, .int .i64 5, .slice A1 nw c1, .slice A2 0 c2, .slice A3 rows.length c3], .int .i64 (l + 1 : Nat)] w fun e w' => e = .returned (.bool (allR l rows)) ∧ Grow w w' := by
 have IH := LH ih
 have H := LH h
 have HR := LH hr
 have HB := LH hb
 clear ih h hr hb
 have hwi : (nw : Int) ≤ 4096 := by omega
 have hll : ((l + 1 : Nat) : Int) ≠ 0 := by omega
 have hle : (((l + 1 : Nat) : Int) == 0) = false := beq_eq_false_iff_ne.2 hll
 obtain ⟨l1, hl1⟩ : ∃ l1, l + 1 = l1 := ⟨_, rfl⟩
 rw [hl1] at hll hle ⊢
 have hwl : IntKind.i64.wrap ((l1 : Int) - 1) = (l : Int) := by rw [IntWalk.i64_in _ (by omega)]; omega
 clear hl1 hll
 have o2 : ((5 : Int) == 2) = false := rfl
 have o6 : ((5 : Int) == 6) = false := rfl
 have HZ := LH h0
 obtain rfl : rows = [] := List.eq_nil_of_length_eq_zero h0
 clear h0
 have hga := (Keep.refl NoB w).alloc (.cells #[.int .i64 2, .int .i64 5, .slice A1 nw c1, .slice A2 0 c2, .slice A3 0 c3] 114)
 have HG := LH hga
 have HC := LH (heap_alloc_new w (.cells #[.int .i64 2, .int .i64 5, .slice A1 nw c1, .slice A2 0 c2, .slice A3 0 c3] 114))
 clear hga
 go_enter Tryz.func143, Tryz.ntmps143
 go_wp2
 go_loopw [9] (fun v wr => v = .int .i64 0 ∧ wr = w.alloc (.cells #[.int .i64 2, .int .i64 5, .slice A1 nw c1, .slice A2 0 c2, .slice A3 0 c3] 114)) (fun v _ => 0)
 case atStart => exact ⟨rfl, rfl⟩
 case round =>
  obtain ⟨rfl, rfl⟩ := hrel
  go_wp2
  go_ret
  exact ⟨rfl, HG.out⟩
theorem rdeepz_25 (A1 A2 A3 : Option Addr) (c1 c2 c3 nw  : Nat) (hw : nw ≤ 4096) (w : World) :
    Calls Tryz.prog 143 #[.agg #[.int .i64 2, .int .i64 5, .slice A1 nw c1, .slice A2 0 c2, .slice A3 0 c3], .int .i64 0] w fun e w' => e = .returned (.bool false) ∧ Grow w w' := by
 have hwi : (nw : Int) ≤ 4096 := by omega
 have o2 : ((5 : Int) == 2) = false := rfl
 have o6 : ((5 : Int) == 6) = false := rfl
 go_enter Tryz.func143, Tryz.ntmps143
 go_wp2
 go_ret
 exact ⟨rfl, (Keep.refl NoB w).alloc _⟩
theorem rdeep_26 (l : Nat) (ih : RDeepAt l) (hl : l ≤ 1000) (rows : List (Tr × Value × Value × Value)) (A1 A2 A3 : Option Addr) (c1 c2 c3  : Nat) (hk : rows.length ≤ 4096) (w : World) (h : SliceR 5 (.slice A3 rows.length c3) rows.length (kcs rows) w) (hr : ∀ r, r ∈ rows → TrR w r.1 r.2.1 r.2.2.1 r.2.2.2) (hb : ∀ r, r ∈ rows → TrB r.1) :
    Calls Tryz.prog 143 #[.agg #[.int .i64 2, .int .i64 6, .slice A1 0 c1, .slice A2 0 c2, .slice A3 rows.length c3], .int .i64 (l + 1 : Nat)] w fun e w' => e = .returned (.bool (allR l rows)) ∧ Grow w w' := by
 have IH := LH ih
 have H := LH h
 have HR := LH hr
 have HB := LH hb
 clear ih h hr hb
 have hki : (rows.length : Int) ≤ 4096 := by omega
 have hll : ((l + 1 : Nat) : Int) ≠ 0 := by omega
 have hle : (((l + 1 : Nat) : Int) == 0) = false := beq_eq_false_iff_ne.2 hll
 obtain ⟨l1, hl1⟩ : ∃ l1, l + 1 = l1 := ⟨_, rfl⟩
 rw [hl1] at hll hle ⊢
 have hwl : IntKind.i64.wrap ((l1 : Int) - 1) = (l : Int) := by rw [IntWalk.i64_in _ (by omega)]; omega
 clear hl1 hll
 have o2 : ((6 : Int) == 2) = false := rfl
 have o5 : ((6 : Int) == 5) = false := rfl
 have hga := (Keep.refl NoB w).alloc (.cells #[.int .i64 2, .int .i64 6, .slice A1 0 c1, .slice A2 0 c2, .slice A3 rows.length c3] 114)
 have HG := LH hga
 have HC := LH (heap_alloc_new w (.cells #[.int .i64 2, .int .i64 6, .slice A1 0 c1, .slice A2 0 c2, .slice A3 rows.length c3] 114))
 clear hga
 go_enter Tryz.func143, Tryz.ntmps143
 go_wp2
 go_loopw [9] (fun v wr => ∃ k : Nat, k ≤ rows.length ∧ v = .int .i64 k ∧ Hid (Grow w wr ∧ ((rows.map (·.1)).take k).all (rightB l) = true ∧ wr.heap[w.heap.size]? = some (.cells #[.int .i64 2, .int .i64 6, .slice A1 0 c1, .slice A2 0 c2, .slice A3 rows.length c3] 114 (0, 0)))) (fun v _ => rows.length - (intOf v).toNat)
 case atStart => exact ⟨0, by omega, rfl, HG.out, by simp, HC.out⟩
 case round =>
  obtain ⟨k, hk2, rfl, HS⟩ := hrel
  obtain ⟨d0, d1, d2, d3, d4, df⟩ := cells5 HS.out.2.2
  by_cases hlt : k < rows.length
  ·have hlt' : (k : Int) < rows.length := by omega
   have hw3 : IntKind.i64.wrap ((k : Int) + 1) = (k : Int) + 1 := IntWalk.i64_in _ (by omega)
   obtain ⟨ad, rfl, q0, q1, q2, q3, q4⟩ := kid_cells (H.out.grow HS.out.1) k hlt
   have hT := LH ((HR.out _ (List.getElem_mem hlt)).grow HS.out.1)
   have hTB := LH (HB.out _ (List.getElem_mem hlt))
   obtain ⟨B1, g1, B2, g2, B3, g3, e1, e2, e3⟩ := hT.out.parts
   rw [e1] at q2
   rw [e2] at q3
   rw [e3] at q4
   have hR1 := IH.out rows[k].1 _ _ _ wr hT.out hTB.out
   rw [e1, e2, e3] at hR1
   have HR1 := LH hR1
   have hget : ((rows.map (·.1)).take (k + 1)).all (rightB l) = (((rows.map (·.1)).take k).all (rightB l) && rightB l rows[k].1) := by
    rw [List.take_succ_eq_append_getElem (by simpa using hlt), List.all_append]
    simp
   have Hget := LH hget
   have Hmem : Hid (rightB l rows[k].1 = false → allR l rows = false) := LH (fun hf => by
    unfold allR
    rw [List.all_eq_false]
    exact ⟨rows[k].1, List.mem_map.2 ⟨_, List.getElem_mem hlt, rfl⟩, by simp [hf]⟩)
   clear hR1 hget e1 e2 e3
   go_wp2_with fail
   refine HR1.out.mono ?_
   rintro e w2 ⟨rfl, hg⟩
   have HG2 := LH (HS.out.1.grow hg)
   have HC2 := LH (Grow.heap hg HS.out.2.2)
   clear hg
   cases hok : rightB l rows[k].1 with
   | false =>
    have Hall := LH (Hmem.out hok)
    clear hok
    go_wp2
    go_ret
    exact ⟨by rw [Hall.out]; rfl, HG2.out⟩
   | true =>
    have Hall : Hid (((rows.map (·.1)).take (k + 1)).all (rightB l) = true) := LH (by rw [Hget.out, HS.out.2.1, hok]; rfl)
    clear hok
    go_wp2
    go_roundw
    case rel => exact ⟨k + 1, by omega, by go_num, HG2.out, Hall.out, HC2.out⟩
    case measure => simp [intOf]; omega
  ·obtain rfl : k = rows.length := by omega
   have hlt' : ¬ ((rows.length : Int) < rows.length) := by omega
   have hall := HS.out.2.1
   rw [List.take_of_length_le (by simp)] at hall
   have Hall : Hid (allR l rows = true) := LH hall
   clear hall
   go_wp2
   go_ret
   exact ⟨by rw [Hall.out]; rfl, HS.out.1⟩
theorem rdeepz_26 (A1 A2 A3 : Option Addr) (c1 c2 c3  nk : Nat) (hk : nk ≤ 4096) (w : World) :
    Calls Tryz.prog 143 #[.agg #[.int .i64 2, .int .i64 6, .slice A1 0 c1, .slice A2 0 c2, .slice A3 nk c3], .int .i64 0] w fun e w' => e = .returned (.bool false) ∧ Grow w w' := by
 have o2 : ((6 : Int) == 2) = false := rfl
 have o5 : ((6 : Int) == 5) = false := rfl
 have hki : (nk : Int) ≤ 4096 := by omega
 go_enter Tryz.func143, Tryz.ntmps143
 go_wp2
 go_ret
 exact ⟨rfl, (Keep.refl NoB w).alloc _⟩
theorem own_ways {k s : Int} {nw nb nk : Nat} (h : ownB k s nw nb nk = true) (hk : k ≠ 0) : (k = 1 ∧ s = 0 ∧ nb = 0 ∧ nw ≤ 100 ∧ nk ≤ 100) ∨ (k = 2 ∧ s = 2 ∧ nw = 0 ∧ nk = 0 ∧ nb ≤ 4096) ∨ (k = 2 ∧ s = 5 ∧ nb = 0 ∧ nk = 0 ∧ nw ≤ 4096) ∨ (k = 2 ∧ s = 6 ∧ nb = 0 ∧ nw = 0 ∧ nk ≤ 4096) := by
 unfold ownB at h
 rw [if_neg hk] at h
 split at h
 ·simp only [Bool.and_eq_true, beq_iff_eq, decide_eq_true_eq] at h
  omega
 ·split at h
  ·split at h
   ·simp only [Bool.and_eq_true, beq_iff_eq, decide_eq_true_eq] at h; omega
   ·split at h
    ·simp only [Bool.and_eq_true, beq_iff_eq, decide_eq_true_eq] at h; omega
    ·split at h
     ·simp only [Bool.and_eq_true, beq_iff_eq, decide_eq_true_eq] at h; omega
     ·cases h
  ·cases h
theorem rdeep_all : ∀ l, l ≤ 1000 → RDeepAt l := by
 intro l
 induction l with
 | zero =>
  intro _ t vw vb vk w h hb
  by_cases hk : t.kind = 0
  ·exact rdeep_null 0 t vw vb vk w h hb hk
  rcases ho : ownT t with _ | _
  ·by_cases h1 : t.kind = 1
   ·exact rdeep_bad1 0 t vw vb vk w h hb ho h1
   by_cases h2 : t.kind = 2
   ·exact rdeep_bad2 0 t vw vb vk w h hb ho h2
   exact rdeep_badk 0 t vw vb vk w h hb ho ⟨hk, h1, h2⟩
  ·have hr : rightB 0 t = false := by simp [rightB, ho, hk]
   rw [hr]
   obtain ⟨A1, c1, A2, c2, A3, c3, rfl, rfl, rfl⟩ := h.parts
   rcases own_ways ho hk with ⟨e1, e2, e3, e4, e5⟩ | ⟨e1, e2, e3, e4, e5⟩ | ⟨e1, e2, e3, e4, e5⟩ | ⟨e1, e2, e3, e4, e5⟩
   ·rw [e1, e2, e3]; exact rdeepz_10 A1 A2 A3 c1 c2 c3 _ _ e4 e5 w
   ·rw [e1, e2, e3, e4]; exact rdeepz_22 A1 A2 A3 c1 c2 c3 _ e5 w
   ·rw [e1, e2, e3, e4]; exact rdeepz_25 A1 A2 A3 c1 c2 c3 _ e5 w
   ·rw [e1, e2, e3, e4]; exact rdeepz_26 A1 A2 A3 c1 c2 c3 _ e5 w
 | succ l ih =>
  intro hl t vw vb vk w h hb
  have ih := ih (by omega)
  by_cases hk : t.kind = 0
  ·exact rdeep_null (l + 1) t vw vb vk w h hb hk
  rcases ho : ownT t with _ | _
  ·by_cases h1 : t.kind = 1
   ·exact rdeep_bad1 (l + 1) t vw vb vk w h hb ho h1
   by_cases h2 : t.kind = 2
   ·exact rdeep_bad2 (l + 1) t vw vb vk w h hb ho h2
   exact rdeep_badk (l + 1) t vw vb vk w h hb ho ⟨hk, h1, h2⟩
  ·obtain ⟨A1, c1, A2, c2, A3, c3, rfl, rfl, rfl⟩ := h.parts
   cases h with
   | @mk k s ws bs _ _ _ rows hW hB hR hr =>
    have hrt : rightB (l + 1) (.mk k s ws bs (rows.map (·.1))) = allR l rows := by simp [rightB, ho, allR, Tr.kids]
    rw [hrt]
    have hkl : (Tr.mk k s ws bs (rows.map (·.1))).kids.length = rows.length := by simp [Tr.kids]
    rw [hkl] at hR ⊢
    have hbk : ∀ r, r ∈ rows → TrB r.1 := fun r hr => hb.r _ (List.mem_map.2 ⟨r, hr, rfl⟩)
    have hw := own_ways ho hk
    rw [hkl] at hw
    rcases hw with ⟨e1, e2, e3, e4, e5⟩ | ⟨e1, e2, e3, e4, e5⟩ | ⟨e1, e2, e3, e4, e5⟩ | ⟨e1, e2, e3, e4, e5⟩
    ·rw [e1, e2, e3]; exact rdeep_10 l ih (by omega) rows A1 A2 A3 c1 c2 c3 _ e4 e5 w hR hr hbk
    ·rw [e1, e2, e3]; exact rdeep_22 l ih (by omega) rows A1 A2 A3 c1 c2 c3 _ e5 e4 w hR hr hbk
    ·rw [e1, e2, e3]; exact rdeep_25 l ih (by omega) rows A1 A2 A3 c1 c2 c3 _ e5 e4 w hR hr hbk
    ·rw [e1, e2, e3, e4]; exact rdeep_26 l ih (by omega) rows A1 A2 A3 c1 c2 c3 e5 w hR hr hbk
theorem rright_calls (t : Tr) (vw vb vk : Value) (w : World) (h : TrR w t vw vb vk) (hb : TrB t) :
    Calls Tryz.prog 68 #[.agg #[.int .i64 t.kind, .int .i64 t.size, vw, vb, vk]] w fun e w' => e = .returned (.bool (rightB 32 t)) ∧ Grow w w' := by
 have HA := LH ((Keep.refl NoB w).alloc (.cells #[.int .i64 t.kind, .int .i64 t.size, vw, vb, vk] 114))
 have hd := rdeep_all 32 (by omega) t vw vb vk _ (h.grow HA.out) hb
 rw [show ((32 : Nat) : Int) = 32 from rfl] at hd
 have HD := LH hd
 clear hd
 obtain ⟨A1, c1, A2, c2, A3, c3, rfl, rfl, rfl⟩ := h.parts
 clear h hb
 go_enter Tryz.func68, Tryz.ntmps68
 go_wp2_with fail
 refine HD.out.mono ?_
 rintro e w' ⟨rfl, hg⟩
 have HG := LH (HA.out.grow hg)
 clear hg
 go_wp2
 go_ret
 exact ⟨rfl, HG.out⟩
def LimA (a : List (List Int)) : Prop := (a.length ≤ 16 ∧ a.flatten.length ≤ 4096) ∧ ∀ s ∈ a, s.length ≤ 4096
def BigA (a : List (List Int)) : Prop := a.length ≤ 20 ∧ ∀ s ∈ a, s.length ≤ 10000
def NumA (a : List (List Int)) : Prop := ∀ s ∈ a, okW s
def ExtA (a b : List (List Int)) : Prop := a.length ≤ b.length ∧ ∀ j, j < a.length → (a.getD j []).length ≤ (b.getD j []).length
theorem ExtA.refl (a : List (List Int)) : ExtA a a := ⟨Nat.le_refl _, fun _ _ => Nat.le_refl _⟩
theorem ExtA.trans {a b c : List (List Int)} (h : ExtA a b) (k : ExtA b c) : ExtA a c := ⟨Nat.le_trans h.1 k.1, fun j hj => Nat.le_trans (h.2 j hj) (k.2 j (Nat.lt_of_lt_of_le hj h.1))⟩
inductive TrN : Tr → Prop where
 | mk {k s : Int} {ws bs : List Int} {kids : List Tr} (hw : okW ws) (hb : ∀ x ∈ bs, 0 ≤ x ∧ x ≤ 255) (hk : ∀ t, t ∈ kids → TrN t) : TrN (.mk k s ws bs kids)
theorem TrN.w {t : Tr} (h : TrN t) : okW t.ws := by cases h; assumption
theorem TrN.b {t : Tr} (h : TrN t) : ∀ x ∈ t.bs, 0 ≤ x ∧ x ≤ 255 := by cases h; assumption
theorem TrN.r {t : Tr} (h : TrN t) : ∀ u, u ∈ t.kids → TrN u := by cases h; assumption
theorem LimA.big {a : List (List Int)} (h : LimA a) : BigA a := ⟨by have := h.1; omega, fun s hs => by have := h.2 s hs; omega⟩
theorem getD_mem {a : List (List Int)} {i : Nat} (h : i < a.length) : a.getD i [] ∈ a := by
 have : a.getD i [] = a[i] := by simp [h]
 rw [this]; exact List.getElem_mem h
theorem set_ext (a : List (List Int)) (seg : Nat) (s : List Int) (h : (a.getD seg []).length ≤ s.length) : ExtA a (a.set seg s) := by
 refine ⟨by simp, fun j hj => ?_⟩
 by_cases e : seg = j
 ·subst e
  simpa [List.getD_eq_getElem?_getD, List.getElem?_set, hj] using h
 ·simp [List.getD_eq_getElem?_getD, List.getElem?_set_ne e]
theorem mem_set_cases {a : List (List Int)} {i : Nat} {s x : List Int} (h : x ∈ a.set i s) : x ∈ a ∨ x = s := List.mem_or_eq_of_mem_set h
theorem flat_set {a : List (List Int)} {seg : Nat} {s : List Int} (hs : seg < a.length) : (a.set seg s).flatten.length + a[seg].length = a.flatten.length + s.length := by
 have e := List.take_append_drop seg a
 have h1 : (a.set seg s).flatten.length = (a.take seg).flatten.length + (s.length + (a.drop (seg + 1)).flatten.length) := by
  rw [List.set_eq_take_append_cons_drop, if_pos hs, List.flatten_append, List.flatten_cons, List.length_append, List.length_append]
 have h2 : a.flatten.length = (a.take seg).flatten.length + (a[seg].length + (a.drop (seg + 1)).flatten.length) := by
  conv => lhs; rw [← e]
  rw [List.drop_eq_getElem_cons hs, List.flatten_append, List.flatten_cons, List.length_append, List.length_append]
 omega
theorem flat_set_same {a : List (List Int)} {seg i : Nat} {x : Int} (hs : seg < a.length) : (a.set seg (a[seg].set i x)).flatten.length = a.flatten.length := by
 have := flat_set (s := a[seg].set i x) hs
 rw [List.length_set] at this
 omega
def SmA (n : Nat) (a : List (List Int)) (size : Int) (full : Bool) (a' : List (List Int)) (full' : Bool) : Prop := full = false → a.length = 1 → (a.flatten.length : Int) + n ≤ size → full' = false ∧ a'.length = 1 ∧ a'.flatten.length = a.flatten.length + n
theorem SmA.trans {n m : Nat} {a b c : List (List Int)} {size : Int} {f g h : Bool} (x : SmA n a size f b g) (y : SmA m b size g c h) : SmA (n + m) a size f c h := fun h1 h2 h3 => by
 obtain ⟨x1, x2, x3⟩ := x h1 h2 (by omega)
 obtain ⟨y1, y2, y3⟩ := y x1 x2 (by omega)
 exact ⟨y1, y2, by omega⟩
theorem SmA.set {a : List (List Int)} {size : Int} {seg i : Nat} {x : Int} (hs : seg < a.length) : SmA 0 a size false (a.set seg (a[seg].set i x)) false := fun _ h _ => ⟨rfl, by rw [List.length_set]; exact h, flat_set_same hs⟩
theorem rset_ok {a : List (List Int)} {seg i : Nat} {x : Int} (hs : seg < a.length) (hl : LimA a) (hn : NumA a) (h0 : 0 ≤ x) (h1 : x ≤ 18446744073709551615) : LimA (a.set seg (a[seg].set i x)) ∧ NumA (a.set seg (a[seg].set i x)) ∧ ExtA a (a.set seg (a[seg].set i x)) ∧ (a.set seg (a[seg].set i x)).length = a.length ∧ ∀ j, ((a.set seg (a[seg].set i x)).getD j []).length = (a.getD j []).length := by
 have hg : a.getD seg [] = a[seg] := by simp [hs]
 refine ⟨⟨by rw [List.length_set, flat_set_same hs]; exact hl.1, fun s hm => ?_⟩, fun s hm => ?_, set_ext a seg _ (by rw [hg, List.length_set]; exact Nat.le_refl _), by simp, fun j => ?_⟩
 ·rcases mem_set_cases hm with h | h
  ·exact hl.2 s h
  ·rw [h, List.length_set]; exact hl.2 _ (List.getElem_mem hs)
 ·rcases mem_set_cases hm with h | h
  ·exact hn s h
  ·rw [h]
   intro y hy
   rcases List.mem_or_eq_of_mem_set hy with h2 | h2
   ·exact hn _ (List.getElem_mem hs) y h2
   ·rw [h2]; exact ⟨h0, h1⟩
 ·by_cases e : seg = j
  ·subst e
   simp [List.getD_eq_getElem?_getD, List.getElem?_set, hs]
  ·simp [List.getD_eq_getElem?_getD, List.getElem?_set_ne e]
theorem moreA_ok {a : List (List Int)} {seg : Nat} {l : List Int} (hs : seg ≤ a.length) (hn : NumA a) (hl : okW l) : NumA (moreA a seg l) ∧ ExtA a (moreA a seg l) ∧ ((moreA a seg l).getD seg []).length = (a.getD seg []).length + l.length ∧ seg < (moreA a seg l).length ∧ (moreA a seg l).length ≤ a.length + 1 ∧ (∀ B, (∀ s ∈ a, s.length ≤ B) → ∀ s ∈ moreA a seg l, s.length ≤ B + l.length) ∧ (seg < a.length → (moreA a seg l).length = a.length) := by
 unfold moreA
 by_cases e : seg = a.length
 ·have hg : (a ++ [[]]).getD seg ([] : List Int) = [] := by rw [e]; simp [List.getD_eq_getElem?_getD]
  have hg2 : a.getD seg [] = [] := by rw [e]; simp [List.getD_eq_getElem?_getD]
  rw [if_pos e, hg, hg2]
  simp only [List.nil_append]
  have hm : ∀ s, s ∈ (a ++ [[]]).set seg l → s ∈ a ∨ s = [] ∨ s = l := fun s h => by
   rcases mem_set_cases h with h | h
   ·rcases List.mem_append.1 h with h | h
    ·exact .inl h
    ·exact .inr (.inl (List.mem_singleton.1 h))
   ·exact .inr (.inr h)
  refine ⟨fun s h => ?_, ⟨by simp, fun j hj => ?_⟩, ?_, by simp; omega, by simp, fun B hB s h => ?_, fun h => by omega⟩
  ·rcases hm s h with h | h | h
   ·exact hn s h
   ·rw [h]; intro x hx; cases hx
   ·rw [h]; exact hl
  ·have : seg ≠ j := by omega
   rw [List.getD_eq_getElem?_getD, List.getD_eq_getElem?_getD, List.getElem?_set_ne this, List.getElem?_append_left hj]
   exact Nat.le_refl _
  ·simp [List.getD_eq_getElem?_getD, List.getElem?_set, e]
  ·rcases hm s h with h | h | h
   ·have := hB s h; omega
   ·rw [h]; simp
   ·rw [h]; omega
 ·rw [if_neg e]
  have hlt : seg < a.length := by omega
  refine ⟨fun s h => ?_, set_ext a seg _ (by simp), ?_, by simpa using hlt, by simp, fun B hB s h => ?_, fun _ => by simp⟩
  ·rcases mem_set_cases h with h | h
   ·exact hn s h
   ·rw [h]
    intro x hx
    rcases List.mem_append.1 hx with h2 | h2
    ·exact hn _ (getD_mem hlt) x h2
    ·exact hl x h2
  ·simp [List.getD_eq_getElem?_getD, List.getElem?_set, hlt]
  ·rcases mem_set_cases h with h | h
   ·have := hB s h; omega
   ·rw [h, List.length_append]; have := hB _ (getD_mem hlt); omega
theorem SmA.more {a : List (List Int)} {size : Int} {full : Bool} {seg : Nat} {l : List Int} (hs : seg < a.length) (hz : size ≤ 4096) : SmA l.length a size full (moreA a seg l) (moreF a size full seg l) := fun h1 h2 h3 => by
 obtain rfl : seg = 0 := by omega
 have hn : ¬ (0 = a.length) := by omega
 have hm : moreA a 0 l = a.set 0 (a.getD 0 [] ++ l) := by unfold moreA; rw [if_neg hn]
 have hg : a.getD 0 [] = a[0] := by simp [hs]
 have hf := flat_set (s := a.getD 0 [] ++ l) hs
 rw [List.length_append, hg] at hf
 have hl : (a.set 0 (a[0] ++ l)).length = 1 := by rw [List.length_set]; exact h2
 have h0 : ((a.set 0 (a[0] ++ l)).getD 0 []).length ≤ (a.set 0 (a[0] ++ l)).flatten.length := by
  obtain ⟨x, hx⟩ : ∃ x, a = [x] := List.length_eq_one_iff.1 h2
  subst hx
  simp
 unfold moreF
 rw [hm, hg]
 refine ⟨?_, hl, by omega⟩
 rw [h1, hl, Bool.false_or, Bool.or_eq_false_iff, Bool.or_eq_false_iff, decide_eq_false_iff_not, decide_eq_false_iff_not, decide_eq_false_iff_not]
 refine ⟨⟨?_, by omega⟩, by omega⟩
 omega
theorem moreF_lim {a : List (List Int)} {size : Int} {full : Bool} {seg : Nat} {l : List Int} (hs : seg ≤ a.length) (hz : size ≤ 4096) (hlim : full = false → LimA a) (hf : moreF a size full seg l = false) : full = false ∧ LimA (moreA a seg l) := by
 unfold moreF at hf
 simp only [Bool.or_eq_false_iff, decide_eq_false_iff_not] at hf
 obtain ⟨⟨⟨h1, h2⟩, h3⟩, h4⟩ := hf
 have hla := hlim h1
 refine ⟨h1, ⟨by omega, by omega⟩, fun s hm => ?_⟩
 have hm2 : s ∈ a ∨ s = [] ∨ s = (moreA a seg l).getD seg [] := by
  have hlt : seg < (moreA a seg l).length := by unfold moreA; split <;> simp <;> omega
  unfold moreA at hm
  rcases mem_set_cases hm with h | h
  ·split at h
   ·rcases List.mem_append.1 h with h | h
    ·exact .inl h
    ·exact .inr (.inl (List.mem_singleton.1 h))
   ·exact .inl h
  ·right; right
   rw [h]
   unfold moreA at hlt ⊢
   rw [List.length_set] at hlt
   simp [List.getD_eq_getElem?_getD, List.getElem?_set, hlt]
 rcases hm2 with h | h | h
 ·exact hla.2 s h
 ·rw [h]; simp
 ·rw [h]; omega
end Go.Proofs.YtfkcpaahdlkcdaaGreat
namespace Go.Proofs.YtfkcpaahdlkcdaaGreat
open Go.RowKit
theorem rmore_calls (a : List (List Int)) (A : Option Addr) (c : Nat) (size : Int) (full : Bool) (seg : Nat) (l : List Int) (Al : Option Addr) (cl : Nat) (hs : seg ≤ a.length) (hla : a.length ≤ 100) (hls : ∀ s ∈ a, s.length ≤ 100000) (hll : l.length ≤ 100000) (w : World) {F : Nat → Prop} (hF : Foot (RowsR .u64 a (.slice A a.length c)) w F) (hl : SliceR 1 (.slice Al l.length cl) l.length (u64s l) w) :
    Calls Tryz.prog 196 #[.agg #[.slice A a.length c, .int .i64 size, .bool full], .int .i64 seg, .slice Al l.length cl] w fun e w' => ∃ A' c', e = .returned (.agg #[.slice A' (moreA a seg l).length c', .int .i64 size, .bool (moreF a size full seg l)]) ∧ Grow w w' ∧ Foot (RowsR .u64 (moreA a seg l) (.slice A' (moreA a seg l).length c')) w' (NewF F w w') := by
 rcases Nat.lt_or_ge seg a.length with h | h
 ·exact rmore_old a A c size full seg l Al cl h hla hls hll w hF hl
 ·exact rmore_new a A c size full seg l Al cl (by omega) hla hls hll w hF hl
structure LI (w0 : World) (node : Obj) (F0 : Nat → Prop) (a : List (List Int)) (A : Option Addr) (c : Nat) (size : Int) (full : Bool) (F : Nat → Prop) (w : World) : Prop where
 t : w.heap[w0.heap.size]? = some (.cells #[.slice A a.length c, .int .i64 size, .bool full] 197 (0, 0))
 nd : w.heap[w0.heap.size + 1]? = some node
 r : w.heap[w0.heap.size + 2]? = some (.cells #[.slice none 0 0, .int .i64 0, .bool false] 197 (0, 0))
 ar : Foot (RowsR .u64 a (.slice A a.length c)) w F
 fd : ∀ k, F k → k < w0.heap.size ∨ w0.heap.size + 2 < k
 ff : ∀ k, F k → F0 k ∨ w0.heap.size ≤ k
 gr : Grow w0 w
theorem three (w : World) (g : Nat) (v0 v1 v2 : Value) : Keep (fun k => k = g) w (((w.setCell ⟨g, 0, none⟩ v0).setCell ⟨g, 1, none⟩ v1).setCell ⟨g, 2, none⟩ v2) :=
 (((Keep.refl (fun k => k = g) w).setCell (p := ⟨g, 0, none⟩) (.inl rfl) v0).setCell (p := ⟨g, 1, none⟩) (.inl rfl) v1).setCell (p := ⟨g, 2, none⟩) (.inl rfl) v2
theorem put3 {w : World} {g T : Nat} {a0 a1 a2 : Value} (x y z : Value) (h : w.heap[g]? = some (.cells #[a0, a1, a2] T (0, 0))) :
    (((w.setCell ⟨g, 0, none⟩ x).setCell ⟨g, 1, none⟩ y).setCell ⟨g, 2, none⟩ z).heap[g]? = some (.cells #[x, y, z] T (0, 0)) := by
 simp only [World.setCell, Array.getElem?_modify]
 simp [h]
namespace LI
variable {w0 : World} {node : Obj} {F0 : Nat → Prop} {a : List (List Int)} {A : Option Addr} {c : Nat} {size : Int} {full : Bool} {F : Nat → Prop} {w w' : World}
theorem later (h : LI w0 node F0 a A c size full F w) (hg : Grow w w') : LI w0 node F0 a A c size full F w' :=
 ⟨hg.heap h.t, hg.heap h.nd, hg.heap h.r, h.ar.grow hg, h.fd, h.ff, h.gr.grow hg⟩
theorem put (h : LI w0 node F0 a A c size full F w) {a' : List (List Int)} {A' : Option Addr} {c' : Nat} {full' : Bool} {F' : Nat → Prop} (hg : Grow w w') (har : Foot (RowsR .u64 a' (.slice A' a'.length c')) w' F') (hF : ∀ k, F' k → F k ∨ w.heap.size ≤ k) :
    LI w0 node F0 a' A' c' size full' F' (((w'.setCell ⟨w0.heap.size, 0, none⟩ (.slice A' a'.length c')).setCell ⟨w0.heap.size, 1, none⟩ (.int .i64 size)).setCell ⟨w0.heap.size, 2, none⟩ (.bool full')) := by
 have hk := three w' w0.heap.size (.slice A' a'.length c') (.int .i64 size) (.bool full')
 have hr := (gE h.r).1
 have hs := hg.size
 have hfd : ∀ k, F' k → k < w0.heap.size ∨ w0.heap.size + 2 < k := fun k hk2 => by
  rcases hF k hk2 with e | e
  ·exact h.fd k e
  ·omega
 exact ⟨put3 _ _ _ (hg.heap h.t), (hk.block (w0.heap.size + 1) (by omega) (by omega)).trans (hg.heap h.nd), (hk.block (w0.heap.size + 2) (by omega) (by omega)).trans (hg.heap h.r), har.keep hk (fun k hk2 e => by have := hfd k hk2; omega), hfd,
  fun k hk2 => by
   rcases hF k hk2 with e | e
   ·exact h.ff k e
   ·exact .inr (by omega), (h.gr.grow hg).trans hk (fun i hi => .inr (by omega))⟩
end LI
def needL : Nat → Tr → Nat
 | 0, _ => 0
 | l + 1, t => if t.kind = 0 then 0 else needN t.kind t.ws.length t.bs.length t.kids.length + (t.kids.map (needL l)).sum
def LayPost (n : Nat) (a : List (List Int)) (size : Int) (full : Bool) (F : Nat → Prop) (w : World) (e : Ending) (w' : World) : Prop :=
 ∃ a' full' A' c' F', e = .returned (.agg #[.slice A' a'.length c', .int .i64 size, .bool full']) ∧ Grow w w' ∧ Foot (RowsR .u64 a' (.slice A' a'.length c')) w' F' ∧ (∀ k, F' k → F k ∨ w.heap.size ≤ k) ∧ ExtA a a' ∧ BigA a' ∧ NumA a' ∧ (full' = false → LimA a') ∧ SmA n a size full a' full'
def LayAt (l : Nat) : Prop := ∀ (t : Tr) (vw vb vk : Value) (a : List (List Int)) (size : Int) (full : Bool) (A : Option Addr) (c s i : Nat) (w : World) (F : Nat → Prop), TrR w t vw vb vk → TrN t → rightB l t = true → Foot (RowsR .u64 a (.slice A a.length c)) w F → BigA a → NumA a → (full = false → LimA a) → 0 ≤ size → size ≤ 4096 → s < a.length → i < (a.getD s []).length →
 Calls Tryz.prog 127 #[.agg #[.slice A a.length c, .int .i64 size, .bool full], .agg #[.int .i64 t.kind, .int .i64 t.size, vw, vb, vk], .int .i64 s, .int .i64 i] w (LayPost (needL l t) a size full F w)
theorem lay_skip (k z : Int) (A1 A2 A3 : Option Addr) (nw nb nk c1 c2 c3 : Nat) (n c : Nat) (A : Option Addr) (size : Int) (full : Bool) (s i : Int) (w : World) (h : k = 0 ∨ full = true) :
    Calls Tryz.prog 127 #[.agg #[.slice A n c, .int .i64 size, .bool full], .agg #[.int .i64 k, .int .i64 z, .slice A1 nw c1, .slice A2 nb c2, .slice A3 nk c3], .int .i64 s, .int .i64 i] w fun e w' => e = .returned (.agg #[.slice A n c, .int .i64 size, .bool full]) ∧ Grow w w' := by
 have hw : Grow w (((w.alloc (.cells #[.slice A n c, .int .i64 size, .bool full] 197)).alloc (.cells #[.int .i64 k, .int .i64 z, .slice A1 nw c1, .slice A2 nb c2, .slice A3 nk c3] 114)).alloc (.cells #[.slice A n c, .int .i64 size, .bool full] 197)) := (((Keep.refl NoB w).alloc _).alloc _).alloc _
 have HW := LH hw
 clear hw
 rcases hk : (k == 0) with _ | _
 ·have hf : full = true := by
    rcases h with h | h
    ·rw [h] at hk; cases hk
    ·exact h
  subst hf
  clear h
  go_enter Tryz.func127, Tryz.ntmps127
  go_wp2
  refine bodyPost_ret (v := .agg #[.slice A n c, .int .i64 size, .bool true]) ?_ rfl ⟨rfl, (((Keep.refl NoB w).alloc _).alloc _).alloc _⟩
  rw [results_cell1 rfl]; go_simp
 ·have hk0 : k = 0 := beq_iff_eq.1 hk
  subst hk0
  clear h hk
  go_enter Tryz.func127, Tryz.ntmps127
  go_wp2
  refine bodyPost_ret (v := .agg #[.slice A n c, .int .i64 size, .bool full]) ?_ rfl ⟨rfl, (((Keep.refl NoB w).alloc _).alloc _).alloc _⟩
  rw [results_cell1 rfl]; go_simp
end Go.Proofs.YtfkcpaahdlkcdaaGreat

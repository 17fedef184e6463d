import Derived.Test.YtimpnbkincgbmaaLib
/-! 'append' onto a row of the call's own, of whatever is appended. -/
set_option linter.unusedSimpArgs false
set_option linter.unusedVariables false
namespace Go.Proofs.Ytimpnbkincgbmaa
open Go.RowKit

section
variable {P : Program} (w : World)
theorem run_append_room_s (t tx ty e : TypeId) (i : TypeInfo) (ht : P.underlying t = some (.slice e)) (hi : P.info? e = some i)
    (g sLen sCap : Nat) (cur : Array Value) (hg : w.heap[g]? = some (.cells cur e (0, 0)))
    (x : Value) (m : Nat) (news : List Value) (hs : Src P i.size tx x m news w)
    (hroom : sLen + m ≤ sCap) (hfit : sLen * i.size + news.length ≤ cur.size) :
    (Builtin.append_ #[t, tx] ty #[.slice (some ⟨g, 0, none⟩) sLen sCap, x]).run P w =
      .ok (.slice (some ⟨g, 0, none⟩) (sLen + m) sCap) (w.setRow g (cur.toList.take (sLen * i.size) ++ news ++ cur.toList.drop (sLen * i.size + news.length)).toArray) := by
  have hst := run_storeCells_at P g (sLen * i.size) e news 0 cur w hg (by simpa using hfit) hs.one
  simp only [Nat.add_zero] at hst
  rcases hs.kind with ⟨e', hk⟩ | hk <;> simp [Builtin.append_, run_underlying ht, run_underlying hk, sizeOf, typeInfo, hi, hs.len, hroom, hs.cells, Addr.add_lit, hst]

theorem run_app (base : Nat) (t tx ty e : TypeId) (i : TypeInfo) (z : Value) (size bytes : Nat) (ht : P.underlying t = some (.slice e)) (hi : P.info? e = some i) (hz : i.zero = some z)
    (hsize : i.size = size) (hby : i.bytes = bytes) (hzs : z.cells.size = size)
    (v : Value) (n : Nat) (xs : List Value) (hown : w.ownsRow base e size v n xs)
    (x : Value) (m : Nat) (news : List Value) (hs : Src P size tx x m news w)
    (h63 : n + m ≤ maxLen) (hbytes : (n + m) * bytes ≤ 140737488355328) (hbase : base ≤ w.heap.size) :
    ∃ v' w', (Builtin.append_ #[t, tx] ty #[v, x]).run P w = .ok v' w' ∧ w'.ownsRow base e size v' (n + m) (xs ++ news) ∧ w.grownBy w' v.ownBlock ∧
      (v'.ownBlock = v.ownBlock ∨ v'.ownBlock = some w.heap.size) ∧ (v' = .slice none 0 0 ↔ v = .slice none 0 0 ∧ m = 0) := by
  subst hsize
  subst hby
  have hsmall : n + m ≤ 9223372036854775807 := by simp only [maxLen] at h63; omega
  have hl := hs.newsLen
  have hlen : (xs ++ news).length = (n + m) * i.size := by rw [List.length_append, hown.1, hl, Nat.add_mul]
  have grown : ∀ (old : Nat), old < n + m → ∀ (row : Option Nat),
      (w.drew.alloc (.cells ((xs ++ news).toArray ++ Builtin.zeroCells z.cells (grownCap w (n + m) old e - (n + m))) e)).ownsRow base e i.size
        (.slice (some ⟨w.heap.size, 0, none⟩) (n + m) (grownCap w (n + m) old e)) (n + m) (xs ++ news) ∧
      w.grownBy (w.drew.alloc (.cells ((xs ++ news).toArray ++ Builtin.zeroCells z.cells (grownCap w (n + m) old e - (n + m))) e)) row := by
    intro old ho row
    have hge := grownCap_ge w (n + m) old e
    have hcm : grownCap w (n + m) old e ≤ maxLen := grownCap_le_maxLen w (n + m) old e h63
    refine ⟨⟨hlen, .inr ⟨w.heap.size, _, _, rfl, hbase, heap_alloc_new w.drew _, hge, hcm, ?_, ?_⟩⟩, ⟨rfl, rfl, rfl, by simp, fun k hk _ => Below.heap_alloc w.drew _ k hk⟩⟩
    · rw [Array.size_append, List.size_toArray, size_zeroCells, hzs, hlen, ← Nat.add_mul]
      congr 1
      omega
    · rw [Array.toList_append, ← hlen]
      exact List.take_left
  rcases hown.2 with ⟨rfl, rfl⟩ | ⟨g, cap, cur, rfl, hbg, hg, hnc, hcm, hcs, htake⟩
  · have hx : xs = [] := List.eq_nil_of_length_eq_zero (by simpa using hown.1)
    subst hx
    by_cases hm : m = 0
    · subst hm
      have hn : news = [] := List.eq_nil_of_length_eq_zero (by simpa using hl)
      subst hn
      refine ⟨.slice none 0 0, w, ?_, World.ownsRow_nil w base e i.size, ⟨rfl, rfl, rfl, Nat.le_refl _, fun _ _ _ => rfl⟩, .inl rfl, by simp⟩
      rcases hs.kind with ⟨e', hk⟩ | hk <;> simp [Builtin.append_, run_underlying ht, run_underlying hk, sizeOf, typeInfo, hi, hs.len, hs.cells]
    · have hr := run_append_grow_src (P := P) w t tx ty e i z ht hi hz none 0 0 [] (run_firstCells_none w.drew i.size 0 0 0) x m news hs (by omega) (by omega) (growslice_fits (by omega) hbytes)
      have hgr := grown 0 (by omega) (Value.ownBlock (.slice none 0 0))
      exact ⟨_, _, hr, hgr.1, hgr.2, .inr rfl, by simp [hm]⟩
  · by_cases hroom : n + m ≤ cap
    · have hfit : n * i.size + news.length ≤ cur.size := by rw [hl, hcs, ← Nat.add_mul]; exact Nat.mul_le_mul_right _ hroom
      have hr := run_append_room_s (P := P) w t tx ty e i ht hi g n cap cur hg x m news hs hroom hfit
      refine ⟨_, _, hr, ⟨hlen, .inr ⟨g, cap, _, rfl, hbg, setRow_heap w g cur _ e _ hg, hroom, hcm, ?_, ?_⟩⟩, ⟨rfl, rfl, rfl, by simp, fun k _ hk => setRow_other w g k _ (fun e => hk (by simp [Value.ownBlock, e]))⟩, .inl rfl, by simp⟩
      · simp only [List.size_toArray, List.length_append, List.length_take, List.length_drop, Array.length_toList]
        omega
      · rw [htake, ← hlen]
        exact List.take_left
    · have holds : ∀ j u, xs[j]? = some u → w.cell? ((⟨g, 0, none⟩ : Addr).add j) = some u := hown.cells (g := g) rfl
      have hr := run_append_grow_src (P := P) w t tx ty e i z ht hi hz (some ⟨g, 0, none⟩) n cap xs (run_firstCells_some w.drew i.size n ⟨g, 0, none⟩ n cap xs hown.1 (by simpa using holds)) x m news hs (by omega) (by omega) (growslice_fits (by omega) hbytes)
      have hgr := grown cap (by omega) (Value.ownBlock (.slice (some ⟨g, 0, none⟩) n cap))
      exact ⟨_, _, hr, hgr.1, hgr.2, .inr rfl, by simp⟩

theorem step_room {ops : Array Oper} {o : Oper} {a : Act} {K : Act → World → Prop} {Q : Exit → Act → World → Prop} {E : Prop} (hgd : o.guard = none) (s x : Operand) (t tx : TypeId)
    (ho : o.op = .call { callee := .builtin .append, args := #[s, x], argTypes := #[t, tx] })
    (e : TypeId) (z : Value) (size bytes : Nat) (ht : P.underlying t = some (.slice e)) (hinfo : (P.info? e).map (fun i => (i.zero, i.size, i.bytes)) = some (some z, size, bytes))
    (g sLen sCap : Nat) (cur : Array Value) (hv : a.eval s = .slice (some ⟨g, 0, none⟩) sLen sCap)
    (xv : Value) (m : Nat) (news : List Value) (hx : a.eval x = xv)
    (h : K (a.put o.dst (.slice (some ⟨g, 0, none⟩) (sLen + m) sCap)) (w.setRow g (cur.toList.take (sLen * size) ++ news ++ cur.toList.drop (sLen * size + news.length)).toArray))
    (hg : w.heap[g]? = some (.cells cur e (0, 0))) (hs : Src P size tx xv m news w) (hroom : sLen + m ≤ sCap) (hfit : sLen * size + news.length ≤ cur.size) :
    if Region.wanted o (yielded ops a.tmps) = true then Oper.wp P o a w K Q else E := by
  have hw : Region.wanted o (yielded ops a.tmps) = true := by simp [Region.wanted, hgd]
  rw [if_pos hw]
  obtain ⟨i, hi, h1, h2, h3⟩ := info_parts hinfo
  subst h2
  have hr := run_append_room_s (P := P) w t tx o.type e i ht hi g sLen sCap cur hg xv m news hs hroom hfit
  unfold Oper.wp execOp
  simp only [ho, resolve, invoke, builtin, Sem.run_bind, Sem.run_pure, Result.andThen_ok, List.map_toArray, List.map_cons, List.map_nil, hv, hx, hr]
  exact h

theorem run_clear_row (t ty e : TypeId) (z : Value) (size bytes : Nat) (ht : P.underlying t = some (.slice e)) (hinfo : (P.info? e).map (fun i => (i.zero, i.size, i.bytes)) = some (some z, size, bytes)) (h1 : ∀ u ∈ z.cells, u.oneCell' = true)
    (g off n c : Nat) (cur : Array Value) (hg : w.heap[g]? = some (.cells cur e (0, 0))) (hn : 0 < n) (hfit : off + n * z.cells.size ≤ cur.size) :
    (Builtin.clear_ #[t] ty #[.slice (some ⟨g, off, none⟩) n c]).run P w = .ok (.tuple #[]) (w.setRow g (cur.toList.take off ++ (Builtin.zeroCells z.cells n).toList ++ cur.toList.drop (off + n * z.cells.size)).toArray) := by
  obtain ⟨i, hi, h2, h3, h4⟩ := info_parts hinfo
  have hl : (Builtin.zeroCells z.cells n).toList.length = n * z.cells.size := by rw [Array.length_toList, size_zeroCells]
  have hone : ∀ u ∈ (Builtin.zeroCells z.cells n).toList, u.oneCell' = true := by
    intro u hu
    simp only [Builtin.zeroCells, Array.toList_map, List.mem_map] at hu
    obtain ⟨j, hj, rfl⟩ := hu
    have hj' : j < n * z.cells.size := by simpa using hj
    have hp : 0 < z.cells.size := by
      rcases Nat.eq_zero_or_pos z.cells.size with h | h
      · rw [h] at hj'; omega
      · exact h
    have hm := Nat.mod_lt j hp
    rw [getElem!_pos z.cells _ hm]
    exact h1 _ (Array.getElem_mem hm)
  have hst := run_storeCells_at P g off e (Builtin.zeroCells z.cells n).toList 0 cur w hg (by rw [hl]; simpa using hfit) hone
  simp only [Nat.add_zero, hl] at hst
  have hn0 : n ≠ 0 := by omega
  cases n with
  | zero => omega
  | succ n => simp [Builtin.clear_, run_underlying ht, zeroValue, typeInfo, hi, h2, hst]

theorem wpList_clear {ops : Array Oper} {rest : List Oper} {o : Oper} {a : Act} {Q : Exit → Act → World → Prop} (hgd : o.guard = none) (x : Operand) (t : TypeId)
    (ho : o.op = .call { callee := .builtin .clear, args := #[x], argTypes := #[t] })
    (e : TypeId) (z : Value) (size bytes : Nat) (ht : P.underlying t = some (.slice e)) (hinfo : (P.info? e).map (fun i => (i.zero, i.size, i.bytes)) = some (some z, size, bytes)) (h1 : ∀ u ∈ z.cells, u.oneCell' = true)
    (g off n c : Nat) (cur : Array Value) (hx : a.eval x = .slice (some ⟨g, off, none⟩) n c)
    (h : wpList P ops Q rest (a.put o.dst (.tuple #[])) (w.setRow g (cur.toList.take off ++ (Builtin.zeroCells z.cells n).toList ++ cur.toList.drop (off + n * z.cells.size)).toArray))
    (hg : w.heap[g]? = some (.cells cur e (0, 0))) (hn : 0 < n) (hfit : off + n * z.cells.size ≤ cur.size) : wpList P ops Q (o :: rest) a w :=
  wpList_plain hgd fun K hK => by
    have hr := run_clear_row (P := P) w t o.type e z size bytes ht hinfo h1 g off n c cur hg hn hfit
    unfold Oper.wp execOp
    simp only [ho, resolve, invoke, builtin, Sem.run_bind, Sem.run_pure, Result.andThen_ok, List.map_toArray, List.map_cons, List.map_nil, hx, hr]
    exact hK _ _ h

/-- What an append leaves. -/
structure Apped (base e size : Nat) (v v' : Value) (n : Nat) (xs : List Value) (w w' : World) (isNil : Prop) : Prop where
  own : w'.ownsRow base e size v' n xs
  grew : w.grownBy w' v.ownBlock
  at_ : v'.ownBlock = v.ownBlock ∨ v'.ownBlock = some w.heap.size
  nil : v' = .slice none 0 0 ↔ isNil

theorem wp_app {o : Oper} {a : Act} {K : Act → World → Prop} {Q : Exit → Act → World → Prop} (s x : Operand) (t tx : TypeId)
    (ho : o.op = .call { callee := .builtin .append, args := #[s, x], argTypes := #[t, tx] })
    (base : Nat) (e : TypeId) (z : Value) (size bytes : Nat) (ht : P.underlying t = some (.slice e)) (hinfo : (P.info? e).map (fun i => (i.zero, i.size, i.bytes)) = some (some z, size, bytes))
    (hzs : z.cells.size = size)
    (v : Value) (n : Nat) (xs : List Value) (hv : a.eval s = v)
    (xv : Value) (m : Nat) (news : List Value) (hx : a.eval x = xv)
    (h : ∀ v' w', Apped base e size v v' (n + m) (xs ++ news) w w' (v = .slice none 0 0 ∧ m = 0) → K (a.put o.dst v') w')
    (hown : w.ownsRow base e size v n xs) (hs : Src P size tx xv m news w)
    (h63 : n + m ≤ maxLen) (hbytes : (n + m) * bytes ≤ 140737488355328) (hbase : base ≤ w.heap.size) : o.wp P a w K Q := by
  obtain ⟨i, hi, h1, h2, h3⟩ := info_parts hinfo
  obtain ⟨v', w', hr, g1, g2, g3, g4⟩ := run_app (P := P) w base t tx o.type e i z size bytes ht hi h1 h2 h3 hzs v n xs hown xv m news hs h63 hbytes hbase
  unfold Oper.wp execOp
  simp only [ho, resolve, invoke, builtin, Sem.run_bind, Sem.run_pure, Result.andThen_ok, List.map_toArray, List.map_cons, List.map_nil, hv, hx, hr]
  exact h v' w' ⟨g1, g2, g3, g4⟩

theorem wpList_app {ops : Array Oper} {rest : List Oper} {o : Oper} {a : Act} {Q : Exit → Act → World → Prop} (hgd : o.guard = none) (s x : Operand) (t tx : TypeId)
    (ho : o.op = .call { callee := .builtin .append, args := #[s, x], argTypes := #[t, tx] })
    (base : Nat) (e : TypeId) (z : Value) (size bytes : Nat) (ht : P.underlying t = some (.slice e)) (hinfo : (P.info? e).map (fun i => (i.zero, i.size, i.bytes)) = some (some z, size, bytes))
    (hzs : z.cells.size = size)
    (v : Value) (n : Nat) (xs : List Value) (hv : a.eval s = v)
    (xv : Value) (m : Nat) (news : List Value) (hx : a.eval x = xv)
    (h : ∀ v' w', Apped base e size v v' (n + m) (xs ++ news) w w' (v = .slice none 0 0 ∧ m = 0) → wpList P ops Q rest (a.put o.dst v') w')
    (hown : w.ownsRow base e size v n xs) (hs : Src P size tx xv m news w)
    (h63 : n + m ≤ maxLen) (hbytes : (n + m) * bytes ≤ 140737488355328) (hbase : base ≤ w.heap.size) : wpList P ops Q (o :: rest) a w :=
  wpList_plain hgd fun _ hK => wp_app w s x t tx ho base e z size bytes ht hinfo hzs v n xs hv xv m news hx (fun v' w' h2 => hK _ _ (h v' w' h2)) hown hs h63 hbytes hbase

theorem step_app {ops : Array Oper} {o : Oper} {a : Act} {K : Act → World → Prop} {Q : Exit → Act → World → Prop} {E : Prop} (hgd : o.guard = none) (s x : Operand) (t tx : TypeId)
    (ho : o.op = .call { callee := .builtin .append, args := #[s, x], argTypes := #[t, tx] })
    (base : Nat) (e : TypeId) (z : Value) (size bytes : Nat) (ht : P.underlying t = some (.slice e)) (hinfo : (P.info? e).map (fun i => (i.zero, i.size, i.bytes)) = some (some z, size, bytes))
    (hzs : z.cells.size = size)
    (v : Value) (n : Nat) (xs : List Value) (hv : a.eval s = v)
    (xv : Value) (m : Nat) (news : List Value) (hx : a.eval x = xv)
    (h : ∀ v' w', Apped base e size v v' (n + m) (xs ++ news) w w' (v = .slice none 0 0 ∧ m = 0) → K (a.put o.dst v') w')
    (hown : w.ownsRow base e size v n xs) (hs : Src P size tx xv m news w)
    (h63 : n + m ≤ maxLen) (hbytes : (n + m) * bytes ≤ 140737488355328) (hbase : base ≤ w.heap.size) :
    if Region.wanted o (yielded ops a.tmps) = true then Oper.wp P o a w K Q else E := by
  have hw : Region.wanted o (yielded ops a.tmps) = true := by simp [Region.wanted, hgd]
  rw [if_pos hw]
  exact wp_app w s x t tx ho base e z size bytes ht hinfo hzs v n xs hv xv m news hx h hown hs h63 hbytes hbase
end

/-- Cells in a row, read. -/
def Cells (w : World) (A : Option Addr) (vs : List Value) : Prop := ∀ j u, vs[j]? = some u → ∃ ad, A = some ad ∧ w.cell? (ad.add j) = some u
/-- A slice of n elements (size cells each), read. -/
def SliceR (size : Nat) (v : Value) (n : Nat) (vs : List Value) (w : World) : Prop := ∃ A c, v = .slice A n c ∧ n ≤ c ∧ vs.length = n * size ∧ (A = none → c = 0) ∧ Cells w A vs

theorem SliceR.src {P : Program} {size tx e' : Nat} {v : Value} {n : Nat} {vs : List Value} {w : World} (h : SliceR size v n vs w) (hk : P.underlying tx = some (.slice e')) (h1 : ∀ u ∈ vs, u.oneCell' = true) : Src P size tx v n vs w := by
  obtain ⟨A, c, rfl, hl, hv, hA, hc⟩ := h
  cases A with
  | none =>
    have h0 : n = 0 := by have := hA rfl; omega
    subst h0
    have : vs = [] := List.eq_nil_of_length_eq_zero (by simpa using hv)
    subst this
    exact Src.ofNil w hk c
  | some ad =>
    refine Src.ofSlice w hk ad n c vs hv (fun j u hu => ?_) h1
    obtain ⟨ad', e, hc'⟩ := hc j u hu
    injection e with e
    subst e
    exact hc'
theorem SliceR.of_own {base e size : Nat} {v : Value} {n : Nat} {vs : List Value} {w : World} (h : w.ownsRow base e size v n vs) : SliceR size v n vs w := by
  rcases h.2 with ⟨rfl, rfl⟩ | ⟨g, cap, cur, rfl, hbg, hg, hnc, hcm, hcs, htake⟩
  · exact ⟨none, 0, rfl, Nat.le_refl _, h.1, fun _ => rfl, fun j u hu => by
      have hv : vs = [] := List.eq_nil_of_length_eq_zero (by simpa using h.1)
      rw [hv] at hu
      simp at hu⟩
  · exact ⟨_, cap, rfl, hnc, h.1, fun e => (by cases e), fun j u hu => ⟨⟨g, 0, none⟩, rfl, h.cells (g := g) rfl j u hu⟩⟩

theorem add_block (a : Addr) (n : Nat) : (a.add n).block = a.block := by unfold Addr.add; split <;> rfl
theorem Cells.keep {S : Nat → Prop} {w w' : World} {A : Option Addr} {vs : List Value} (h : Cells w A vs) (hk : Keep S w w') (hS : ∀ ad, A = some ad → ¬ S ad.block) : Cells w' A vs := fun j u hu => by
  obtain ⟨ad, e, hc⟩ := h j u hu
  exact ⟨ad, e, hk.cell hc (by rw [add_block]; exact hS ad e)⟩
theorem Cells.grow {w w' : World} {A : Option Addr} {vs : List Value} (h : Cells w A vs) (hk : Grow w w') : Cells w' A vs := h.keep hk (fun _ _ hf => hf)
theorem SliceR.grow {size : Nat} {v : Value} {n : Nat} {vs : List Value} {w w' : World} (h : SliceR size v n vs w) (hk : Grow w w') : SliceR size v n vs w' := by
  obtain ⟨A, c, h1, h2, h3, h4, h5⟩ := h
  exact ⟨A, c, h1, h2, h3, h4, h5.grow hk⟩
/-- What lies below B is not written. -/
theorem Cells.old {S : Nat → Prop} {w w' : World} {A : Option Addr} {vs : List Value} {B : Nat} (h : Cells w A vs) (hk : Keep S w w') (hA : ∀ ad, A = some ad → ad.block < B) (hS : ∀ k, S k → B ≤ k) : Cells w' A vs :=
  h.keep hk (fun ad e hs => absurd (hA ad e) (Nat.not_lt.2 (hS _ hs)))

theorem SliceR.of_block {size n c g T : Nat} {cs : Array Value} {fr : Nat × Nat} {w : World} (h : w.heap[g]? = some (.cells cs T fr)) (hn : n ≤ c) (hs : cs.size = n * size) : SliceR size (.slice (some ⟨g, 0, none⟩) n c) n cs.toList w :=
  ⟨_, c, rfl, hn, by simpa using hs, (fun e => by cases e), fun j u hu => ⟨_, rfl, World.news_of_block h j u hu⟩⟩
theorem own_slice {base e size n : Nat} {v : Value} {xs : List Value} {w : World} (h : w.ownsRow base e size v n xs) : ∃ A c, v = .slice A n c ∧ n ≤ c ∧ (∀ k, v.ownBlock = some k → A = some ⟨k, 0, none⟩) ∧ (A = none → n = 0 ∧ c = 0) := by
  rcases h.2 with ⟨rfl, rfl⟩ | ⟨g, cap, cur, rfl, hg, hh, hn, r⟩
  · exact ⟨none, 0, rfl, Nat.le_refl _, by simp [Value.ownBlock], fun _ => ⟨rfl, rfl⟩⟩
  · exact ⟨_, cap, rfl, hn, by simp [Value.ownBlock], by simp⟩
theorem own_keep {base e size n : Nat} {v : Value} {xs : List Value} {S : Nat → Prop} {w w' : World} (h : w.ownsRow base e size v n xs) (hk : Keep S w w') (hd : ∀ k, v.ownBlock = some k → ¬ S k) : w'.ownsRow base e size v n xs := by
  refine ⟨h.1, ?_⟩
  rcases h.2 with h2 | ⟨g, cap, cur, rfl, hg, hh, r⟩
  · exact .inl h2
  · exact .inr ⟨g, cap, cur, rfl, hg, (hk.block g (Array.getElem?_eq_some_iff.1 hh).1 (hd g (by simp [Value.ownBlock]))).trans hh, r⟩
theorem own_base0 {base e size n : Nat} {v : Value} {xs : List Value} {w : World} (h : w.ownsRow base e size v n xs) : w.ownsRow 0 e size v n xs := by
  refine ⟨h.1, ?_⟩
  rcases h.2 with h2 | ⟨g, cap, cur, rfl, hg, r⟩
  · exact .inl h2
  · exact .inr ⟨g, cap, cur, rfl, Nat.zero_le _, r⟩
theorem cell0 {w : World} {g T : Nat} {v : Value} (h : w.heap[g]? = some (.cells #[v] T (0, 0))) : w.cell? ⟨g, 0, none⟩ = some v := by
  rw [cell_of_row w g 0 _ _ _ h]
  rfl
theorem frozen0 {w : World} {g T : Nat} {cs : Array Value} (o : Nat) (h : w.heap[g]? = some (.cells cs T (0, 0))) : w.frozen? ⟨g, o, none⟩ = false := by
  simp [World.frozen?, h]

theorem Foot.of_own {base e size n : Nat} {v : Value} {xs : List Value} {w : World} (h : w.ownsRow base e size v n xs) : Foot (SliceR size v n xs) w (fun k => v.ownBlock = some k) := by
  refine ⟨fun k hk => (h.lt k hk).2, fun W' hW => SliceR.of_own (base := base) (e := e) ?_⟩
  refine ⟨h.1, ?_⟩
  rcases h.2 with h2 | ⟨g, cap, cur, rfl, hg, hh, r⟩
  · exact .inl h2
  · exact .inr ⟨g, cap, cur, rfl, hg, (hW g (by simp [Value.ownBlock])).trans hh, r⟩
theorem heap_setCell_same {w : World} {g T : Nat} {v : Value} (u : Value) (h : w.heap[g]? = some (.cells #[v] T (0, 0))) : (w.setCell ⟨g, 0, none⟩ u).heap[g]? = some (.cells #[u] T (0, 0)) := by
  simp only [World.setCell, Array.getElem?_modify]
  simp [h]
theorem foot_lt {P : World → Prop} {W : World} {F : Nat → Prop} (h : Foot P W F) : ∀ k, F k → k < W.heap.size := h.1
theorem of_append {base e size n : Nat} {v v' : Value} {xs : List Value} {w w' : World} {p : Prop} (h : Apped base e size v v' n xs w w' p) : ∀ k, v'.ownBlock = some k → v.ownBlock = some k ∨ k = w.heap.size := fun k hk => by
  rcases h.at_ with h | h
  · exact .inl (h ▸ hk)
  · rw [h] at hk
    exact .inr (Option.some.inj hk).symm

end Go.Proofs.Ytimpnbkincgbmaa

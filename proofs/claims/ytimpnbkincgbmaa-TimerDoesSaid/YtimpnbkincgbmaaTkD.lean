import Derived.Test.YtimpnbkincgbmaaTkC
set_option linter.unusedSimpArgs false
set_option linter.unusedVariables false
namespace Go.Proofs.Ytimpnbkincgbmaa
open Go.RowKit

theorem IsMin.all {l : List KT} {b : KT} (h : IsMin l l.length b) (hne : l ≠ []) : b ∈ l ∧ ∀ y ∈ l, lekt b y := by
  rcases h with ⟨e, _⟩ | h
  · exact absurd (List.length_eq_zero_iff.1 e) hne
  · rwa [List.take_length] at h
theorem IsMin.nil {b : KT} (h : IsMin [] 0 b) : b = (0, 0) := by
  rcases h with ⟨_, e⟩ | ⟨h, _⟩
  · exact e
  · simp at h

structure KDueSt (w : World) (v0 : Value) (l : List KT) (now : Int) (ds l' : List KT) (v' v : Value) (wr : World) : Prop where
  ref : Kl l' v' wr
  grow : Grow w wr
  own : wr.ownsRow w.heap.size 3 1 v ds.length (keysV ds)
  part : Part l now ds l'
  src : ∀ k, v'.ownBlock = some k → v0.ownBlock = some k ∨ w.heap.size ≤ k
  apart : ∀ k, v'.ownBlock = some k → v.ownBlock ≠ some k

set_option maxRecDepth 100000 in
set_option maxHeartbeats 2000000 in
theorem kdue_calls (l : List KT) (v : Value) (w : World) (h : Kl l v w) (hl : l.length ≤ 1000) (hn : ND l) (now : Int) :
    Calls Try.prog 48 #[v, .int .i64 now] w fun e w' => ∃ v' ds A c, e = .returned (.tuple #[v', .slice A ds.length c]) ∧ DueOf l now ds ∧ Kl (restL l now) v' w' ∧ Grow w w' ∧ w'.ownsRow w.heap.size 3 1 (.slice A ds.length c) ds.length (keysV ds) ∧ ∀ k, v'.ownBlock = some k → v.ownBlock = some k ∨ w.heap.size ≤ k := by
  have HS : Hid (KDueSt w v l now [] l v (.slice none 0 0) w) := ⟨h, Keep.refl _ _, World.ownsRow_nil _ _ _ _, Part.start hn now, fun k hk => .inl hk, fun k _ => by simp [Value.ownBlock]⟩
  obtain ⟨A, n, rfl⟩ := h.slice
  clear h hn
  go_enter Try.func48, Try.ntmps48
  go_wp2
  go_loopw [0, 6] (fun vl vo wr => ∃ ds l' A1 c1 A2 c2, vl = .slice A1 l'.length c1 ∧ vo = .slice A2 ds.length c2 ∧ Hid (KDueSt w (.slice A l.length n) l now ds l' (.slice A1 l'.length c1) (.slice A2 ds.length c2) wr)) (fun vl _ _ => sliceLen vl)
  case atStart => exact ⟨[], l, A, n, none, 0, rfl, rfl, HS⟩
  case round =>
    clear HS
    obtain ⟨ds, l', A1, c1, A2, c2, rfl, rfl, HS⟩ := hrel
    have hlen := HS.out.part.len
    by_cases hnil : l' = []
    · subst hnil
      go_wp2_with fail
      refine (knext_calls [] _ wr HS.out.ref (by simp)).mono ?_
      rintro e w2 ⟨b, rfl, hg, hb⟩
      obtain rfl := hb.nil
      have Hg := Lib.hid (hg.alloc (.cells #[.int .i64 0, .int .i64 0] 106))
      clear hg hb
      go_wp2
      go_ret2
      obtain ⟨h1, h2⟩ := HS.out.part.done (fun y hy => by cases hy)
      refine ⟨_, ds, A2, c2, rfl, h1, ?_, HS.out.grow.grow Hg.out, own_keep HS.out.own Hg.out (fun _ _ h => h), HS.out.src⟩
      rw [← h2]
      exact HS.out.ref.grow Hg.out
    · have hpos : (0 : Int) < l'.length := by have := List.length_pos_iff.2 hnil; omega
      have hl0 : 0 < l'.length := by omega
      go_wp2_with fail
      refine (knext_calls l' _ wr HS.out.ref (by omega)).mono ?_
      rintro e w2 ⟨b, rfl, hg, hb⟩
      have Hb := Lib.hid (hb.all hnil)
      have hgs := hg.size
      have Hout : Hid (∀ k, (Value.slice A2 ds.length c2).ownBlock = some k → k ≠ w2.heap.size) := fun k hk => by have := (HS.out.own.lt k hk).2; omega
      clear hgs
      have Hg := Lib.hid (hg.alloc (.cells #[.int .i64 b.1, .int .i64 b.2] 106))
      have hd := heap_alloc_new w2 (.cells #[.int .i64 b.1, .int .i64 b.2] 106)
      have hx0 : (w2.alloc (.cells #[.int .i64 b.1, .int .i64 b.2] 106)).cell? ⟨w2.heap.size, 0, none⟩ = some (.int .i64 b.1) := World.news_of_block hd 0 _ rfl
      have hx1 : (w2.alloc (.cells #[.int .i64 b.1, .int .i64 b.2] 106)).cell? ⟨w2.heap.size, 1, none⟩ = some (.int .i64 b.2) := World.news_of_block hd 1 _ rfl
      clear hg hb hd hnil
      by_cases hn : now < b.2
      · go_wp2
        go_ret2
        obtain ⟨h1, h2⟩ := HS.out.part.done (fun y hy => by
          have := Hb.out.2 y hy
          unfold lekt at this
          omega)
        refine ⟨_, ds, A2, c2, by simp, h1, ?_, HS.out.grow.grow Hg.out, own_keep HS.out.own Hg.out (fun _ _ h => h), HS.out.src⟩
        rw [← h2]
        exact HS.out.ref.grow Hg.out
      · have HS2 : Hid (KDueSt w (.slice A l.length n) l now ds l' (.slice A1 l'.length c1) (.slice A2 ds.length c2) (w2.alloc (.cells #[.int .i64 b.1, .int .i64 b.2] 106))) := ⟨HS.out.ref.grow Hg.out, HS.out.grow.grow Hg.out, own_keep HS.out.own Hg.out (fun _ _ h => h), HS.out.part, HS.out.src, HS.out.apart⟩
        have Hx1 := Lib.hid hx1
        have Hx0 := Lib.hid hx0
        clear Hg HS
        generalize hw3 : w2.alloc (.cells #[.int .i64 b.1, .int .i64 b.2] 106) = w3 at *
        have hsz := HS2.out.grow.size
        have hown3 := own_keep HS2.out.own ((Keep.refl NoB w3).alloc (.cells #[.int .i64 b.1] 3)) (fun _ _ h => h)
        have Hown3 := Lib.hid hown3
        clear hown3
        go_wp2_with (at_builtin; refine wpList_app _ rfl _ _ 54 54 rfl w.heap.size 3 (.int .i64 0) 1 8 u_ints info_int rfl (.slice A2 ds.length c2) ds.length (keysV ds) rfl (.slice (some ⟨w3.heap.size, 0, none⟩) 1 1) 1 [.int .i64 b.1] rfl ?_ (by exact Hown3.out) (by exact Src.ofSlice _ u_ints ⟨w3.heap.size, 0, none⟩ 1 1 _ rfl (World.news_of_block (cs := #[.int .i64 b.1]) (t := 3) (fr := (0, 0)) (heap_alloc_new w3 _)) (by simp [Value.oneCell'])) (by simp only [maxLen]; omega) (by omega) (by simp; omega); intro v4 w4 hap; refine Hid.out ?_)
        refine Lib.hid ?_
        have hk4 : Keep (fun k => (Value.slice A2 ds.length c2).ownBlock = some k) w3 w4 := ((Keep.refl _ w3).alloc _).grown hap.grew (fun k hk => .inl hk)
        have e1 : (ds ++ [b]).length = ds.length + 1 := by simp
        have e2 : keysV (ds ++ [b]) = keysV ds ++ [.int .i64 b.1] := by simp [keysV]
        have hx0' := hk4.cell Hx0.out (fun hk => Hout.out _ hk rfl)
        have hv4 : ∀ k, v4.ownBlock = some k → (Value.slice A2 ds.length c2).ownBlock = some k ∨ k = w3.heap.size + 1 := fun k hk => by simpa using of_append hap k hk
        have own4 : w4.ownsRow w.heap.size 3 1 v4 (ds ++ [b]).length (keysV (ds ++ [b])) := by rw [e1, e2]; exact hap.own
        have Hg4 : Hid (Grow w w4) := (((HS2.out.grow.mono (fun _ h => h.elim)).trans hk4 (fun i hi => .inl hi) : Keep (fun k => (Value.slice A2 ds.length c2).ownBlock = some k) w w4).new (fun k hk => (HS2.out.own.lt k hk).1))
        have HR4 : Hid (Kl l' (.slice A1 l'.length c1) w4) := HS2.out.ref.keep hk4 (fun k hk => HS2.out.apart k hk)
        obtain ⟨A4, c4, rfl, _⟩ := own_slice hap.own
        have Ho4 := Lib.hid own4
        have Hv4 := Lib.hid hv4
        clear hap hk4 own4 hv4 hx0 hx1 Hx0 Hx1 Hown3
        rw [← e1] at Ho4 Hv4 ⊢
        have hdl := delL_length (t := b.2) HS2.out.part.nd' Hb.out.1
        go_wp2_with fail
        refine (kdrop_calls l' _ w4 HR4.out (by omega) b.1).mono ?_
        rintro e w5 ⟨A5, c5, rfl, ho5, hg5⟩
        have HS5 : Hid (KDueSt w (.slice A l.length n) l now (ds ++ [b]) (delL l' b.1) (.slice A5 (delL l' b.1).length c5) (.slice A4 (ds ++ [b]).length c4) w5) := ⟨own_base0 ho5, Hg4.out.grow hg5, own_keep Ho4.out hg5 (fun _ _ h => h), HS2.out.part.step Hb.out.1 Hb.out.2 (by omega), fun k hk => .inr (Nat.le_trans Hg4.out.size (ho5.lt k hk).1), fun k hk hk2 => by
          have h1 := (ho5.lt k hk).1
          have h2 := (Ho4.out.lt k hk2).2
          omega⟩
        clear ho5 hg5
        go_wp2
        go_roundw
        case rel => exact ⟨ds ++ [b], delL l' b.1, A5, c5, A4, c4, rfl, by rw [e1], HS5⟩
        case measure => simp [sliceLen]; omega
end Go.Proofs.Ytimpnbkincgbmaa

import Derived.Test.YtimpnbkincgbmaaNetH
import Derived.Test.YtimpnbkincgbmaaArgs
import Derived.LoopTactic
set_option linter.unusedSimpArgs false
set_option linter.unusedVariables false
namespace Go.Proofs.Ytimpnbkincgbmaa
open Go.RowKit

theorem info_str : (Try.prog.info? 9).map (fun i => (i.zero, i.size, i.bytes)) = some (some (.string ByteArray.empty), 1, 16) := by kernel_rfl
theorem u_strs : Try.prog.underlying 33 = some (.slice 9) := by kernel_rfl
abbrev strs (l : List ByteArray) : List Value := l.map Value.string

/-- What NetOrder pushes: each list of at most 200 bytes, to its end. -/
def pushes (ls : List (List Int)) (ts : List Bool) (k : Nat) : List G :=
  ((List.range k).filter fun i => decide ((ls.getD i []).length ≤ 200)).map fun i => ((if ts.getD i false then 1 else 0), ls.getD i [])
theorem pushes_yes (ls : List (List Int)) (ts : List Bool) (k : Nat) (h : (ls.getD k []).length ≤ 200) : pushes ls ts (k + 1) = pushes ls ts k ++ [((if ts.getD k false then 1 else 0), ls.getD k [])] := by
  have hd : decide ((ls.getD k []).length ≤ 200) = true := decide_eq_true h
  unfold pushes
  rw [List.range_succ, List.filter_append, List.map_append, List.filter_cons, hd]
  rfl
theorem pushes_no (ls : List (List Int)) (ts : List Bool) (k : Nat) (h : ¬ (ls.getD k []).length ≤ 200) : pushes ls ts (k + 1) = pushes ls ts k := by
  have hd : decide ((ls.getD k []).length ≤ 200) = false := decide_eq_false h
  unfold pushes
  rw [List.range_succ, List.filter_append, List.map_append, List.filter_cons, hd]
  simp
theorem pushes_len (ls : List (List Int)) (ts : List Bool) (k : Nat) : (pushes ls ts k).length ≤ k := by
  unfold pushes
  rw [List.length_map]
  exact Nat.le_trans (List.length_filter_le _ _) (by simp)
/-- The texts that are wanted. -/
def wants (l : List G) : List ByteArray := l.map fun x => strOfNums x.2

theorem own_set {base e n r c : Nat} {v : Value} {xs : List Value} {w : World} (h : w.ownsRow base e 1 v n xs) (hv : v.ownBlock = some r) (j : Nat) (hj : j < n) (u : Value) :
    (w.setCell ⟨r, j, none⟩ u).ownsRow base e 1 v n (xs.set j u) ∧ Keep (fun k => v.ownBlock = some k) w (w.setCell ⟨r, j, none⟩ u) := by
  rcases h.2 with ⟨rfl, rfl⟩ | ⟨g, cap, cur, rfl, hg, r'⟩
  · omega
  · have : g = r := by simpa [Value.ownBlock] using hv
    subst this
    exact ⟨(h.stored j u).1, (Keep.refl (fun k => (Value.slice (some ⟨g, 0, none⟩) n cap).ownBlock = some k) w).setCell (p := ⟨g, j, none⟩) (.inl rfl) u⟩

/-- Where NetOrder stands: the net, and the texts that are wanted. -/
structure OrdSt (W : World) (g : Nat) (l : List G) (F : Nat → Prop) (A : Option Addr) (c : Nat) (w : World) : Prop where
  net : Net g l F w
  ge : ∀ x, F x → W.heap.size ≤ x
  grow : Grow W w
  own : w.ownsRow W.heap.size 9 1 (.slice A l.length c) l.length (strs (wants l))
  apart : ∀ x, (Value.slice A l.length c).ownBlock = some x → ¬ F x
/-- Beside it a list of bytes of the call's own. -/
structure OrdB (W wr : World) (F : Nat → Prop) (V : Value) (A : Option Addr) (n c : Nat) (y : List Int) (w : World) : Prop where
  own : w.ownsRow wr.heap.size 5 1 (.slice A n c) n (u8s y)
  len : y.length = n
  apart : ∀ x, (Value.slice A n c).ownBlock = some x → ¬ F x ∧ V.ownBlock ≠ some x ∧ W.heap.size ≤ x

theorem OrdSt.keep {W : World} {g : Nat} {l : List G} {F S : Nat → Prop} {A : Option Addr} {c : Nat} {w w' : World} (h : OrdSt W g l F A c w) (hk : Keep S w w') (hF : ∀ x, F x → ¬ S x) (hA : ∀ x, (Value.slice A l.length c).ownBlock = some x → ¬ S x) (hS : ∀ x, S x → W.heap.size ≤ x) : OrdSt W g l F A c w' :=
  ⟨h.net.keep hk hF, h.ge, (Keep.trans (S := S) (h.grow.mono (fun _ h => h.elim)) hk (fun i hi => .inl hi)).new hS, own_keep h.own hk hA, h.apart⟩

/-- b has been made. -/
theorem OrdSt.made {W wr w2 : World} {g : Nat} {l : List G} {F : Nat → Prop} {A A5 : Option Addr} {c c5 : Nat} {x : List Int} {p : Prop} (h : OrdSt W g l F A c wr)
    (ha : Apped wr.heap.size 5 1 (.slice none 0 0) (.slice A5 x.length c5) x.length ([] ++ u8s x) wr w2 p) : OrdSt W g l F A c w2 ∧ OrdB W wr F (.slice A l.length c) A5 x.length c5 x w2 := by
  have hg : Grow wr w2 := (Keep.refl NoB wr).grown ha.grew (by simp [Value.ownBlock])
  have ho : w2.ownsRow wr.heap.size 5 1 (.slice A5 x.length c5) x.length (u8s x) := by simpa using ha.own
  refine ⟨h.keep hg (fun _ _ h => h) (fun _ _ h => h) (fun _ h => h.elim), ho, rfl, fun y hy => ?_⟩
  have h1 := ho.lt y hy
  refine ⟨fun hF => ?_, fun hV => ?_, Nat.le_trans h.grow.size h1.1⟩
  · have := h.net.lt y hF; omega
  · have := (h.own.lt y hV).2; omega

/-- It has been pushed, and its text is wanted. -/
theorem OrdSt.yes {W wr w2 w3 w4 : World} {g : Nat} {l : List G} {F F2 : Nat → Prop} {A A5 A6 : Option Addr} {c c5 c6 : Nat} {x : List Int} {to : Int} {o : Obj} {p : Prop} (h : OrdSt W g l F A c w2) (hb : OrdB W wr F (.slice A l.length c) A5 x.length c5 x w2)
    (hN : Net g (l ++ [(to, x)]) F2 w3) (hk : Keep F w2 w3) (hF : ∀ k, F2 k → F k ∨ w2.heap.size ≤ k)
    (ha : Apped W.heap.size 9 1 (.slice A l.length c) (.slice A6 (l.length + 1) c6) (l.length + 1) (strs (wants l) ++ [.string (strOfNums x)]) (w3.alloc o) w4 p) :
    OrdSt W g (l ++ [(to, x)]) F2 A6 c6 w4 ∧ OrdB W wr F2 (.slice A6 (l ++ [(to, x)]).length c6) A5 x.length c5 x w4 := by
  have hlen : (l ++ [(to, x)]).length = l.length + 1 := by simp
  have hw : strs (wants l) ++ [.string (strOfNums x)] = strs (wants (l ++ [(to, x)])) := by simp [wants]
  have h3 : OrdSt W g l F A c w2 := h
  have hAF : ∀ y, (Value.slice A l.length c).ownBlock = some y → y < w2.heap.size ∧ ¬ F2 y := fun y hy => by
    have h1 := h.own.lt y hy
    refine ⟨h1.2, fun h2 => ?_⟩
    rcases hF y h2 with h4 | h4
    · exact h.apart y hy h4
    · omega
  have hk4 : Keep (fun y => (Value.slice A l.length c).ownBlock = some y) w3 w4 := ((Keep.refl _ w3).alloc o).grown ha.grew (fun k hk => .inl hk)
  have hk24 : Keep (fun y => F y ∨ (Value.slice A l.length c).ownBlock = some y) w2 w4 := Keep.trans (hk.mono (fun _ h => .inl h)) hk4 (fun i hi => .inl (.inr hi))
  have hA6 : ∀ y, (Value.slice A6 (l.length + 1) c6).ownBlock = some y → (Value.slice A l.length c).ownBlock = some y ∨ w3.heap.size ≤ y := fun y hy => by
    rcases of_append ha y hy with h1 | h1
    · exact .inl h1
    · right; rw [h1]; simp
  refine ⟨⟨hN.keep hk4 (fun y hy hS => (hAF y hS).2 hy), fun y hy => ?_, ?_, ?_, ?_⟩, ⟨own_keep hb.own hk24 ?_, rfl, ?_⟩⟩
  · exact (hF y hy).elim (h.ge y) (fun h1 => Nat.le_trans h.grow.size h1)
  · exact (Keep.trans (S := fun y => F y ∨ (Value.slice A l.length c).ownBlock = some y) (h.grow.mono (fun _ h => h.elim)) hk24 (fun i hi => .inl hi)).new (fun y hy => hy.elim (h.ge y) (fun h1 => (h.own.lt y h1).1))
  · rw [hlen, ← hw]; exact ha.own
  · rw [hlen]
    intro y hy hy2
    rcases hA6 y hy with h1 | h1
    · exact (hAF y h1).2 hy2
    · have := hN.lt y hy2; omega
  · intro y hy h1
    have := hb.apart y hy
    rcases h1 with h1 | h1
    · exact this.1 h1
    · exact this.2.1 h1
  · rw [hlen]
    intro y hy
    have h1 := hb.apart y hy
    have h2 := (hb.own.lt y hy).2
    refine ⟨fun h4 => ?_, fun h4 => ?_, h1.2.2⟩
    · rcases hF y h4 with h5 | h5
      · exact h1.1 h5
      · omega
    · rcases hA6 y h4 with h5 | h5
      · exact h1.2.1 h5
      · have := hk.size; omega

/-- While it is taken: j are out. -/
structure OrdT (W : World) (g j : Nat) (P : List G) (F : Nat → Prop) (A : Option Addr) (c : Nat) (w : World) : Prop where
  net : Net g (P.drop j) F w
  ge : ∀ x, F x → W.heap.size ≤ x
  grow : Grow W w
  own : w.ownsRow W.heap.size 9 1 (.slice A P.length c) P.length (strs (wants P))
  apart : ∀ x, (Value.slice A P.length c).ownBlock = some x → ¬ F x
theorem OrdT.keep {W : World} {g j : Nat} {P : List G} {F S : Nat → Prop} {A : Option Addr} {c : Nat} {w w' : World} (h : OrdT W g j P F A c w) (hk : Keep S w w') (hS : ∀ x, S x → w.heap.size ≤ x) : OrdT W g j P F A c w' :=
  ⟨h.net.keep (hk.new hS) (fun _ _ h => h), h.ge, h.grow.grow (hk.new hS), own_keep h.own (hk.new hS) (fun _ _ h => h), h.apart⟩
theorem OrdT.took {W : World} {g j : Nat} {P : List G} {F F' : Nat → Prop} {A : Option Addr} {c : Nat} {w w' : World} (h : OrdT W g j P F A c w) (hN : Net g ((P.drop j).eraseIdx 0) F' w') (hk : Keep F w w') (hF : ∀ k, F' k → F k ∨ w.heap.size ≤ k) : OrdT W g (j + 1) P F' A c w' := by
  refine ⟨?_, fun x hx => ?_, (Keep.trans (S := F) (h.grow.mono (fun _ h => h.elim)) hk (fun i hi => .inl hi)).new h.ge, own_keep h.own hk h.apart, fun x hx hx2 => ?_⟩
  · have : (P.drop j).eraseIdx 0 = P.drop (j + 1) := by rw [List.eraseIdx_zero, List.tail_drop]
    rw [← this]; exact hN
  · exact (hF x hx).elim (h.ge x) (fun h1 => Nat.le_trans h.grow.size h1)
  · rcases hF x hx2 with h1 | h1
    · exact h.apart x hx h1
    · have := (h.own.lt x hx).2; omega

set_option maxRecDepth 100000 in
set_option maxHeartbeats 1000000 in
theorem order_calls (A : Option Addr) (cap : Nat) (ls : List (List Int)) (B : Option Addr) (cb : Nat) (ts : List Bool) (W : World) (hls : BssR A ls W) (hcap : ls.length ≤ cap) (hcapm : cap ≤ maxLen) (hz : ∀ x ∈ ls, x.length ≤ 140737488351232)
    (hts : SliceR 1 (.slice B ts.length cb) ts.length (ts.map Value.bool) W) :
    Calls Try.prog 4 #[.slice A ls.length cap, .slice B ts.length cb] W fun e w' => e = .returned (.bool true) ∧ Grow W w' := by
  by_cases hg : 30 < ls.length
  · clear hls hts hz
    go_enter Try.func4, Try.ntmps4
    go_wp2_with fail
    refine (nknown_calls W).mono ?_
    rintro e w1 ⟨rfl, h1⟩
    go_wp2
    go_ret
    exact ⟨rfl, h1⟩
  by_cases hg2 : ts.length < ls.length
  · clear hls hts hz
    go_enter Try.func4, Try.ntmps4
    go_wp2_with fail
    refine (nknown_calls W).mono ?_
    rintro e w1 ⟨rfl, h1⟩
    go_wp2
    go_ret
    exact ⟨rfl, h1⟩
  have Hls := Lib.hid hls
  have Hts := Lib.hid hts
  have Hz := Lib.hid hz
  clear hls hts hz
  go_enter Try.func4, Try.ntmps4
  go_wp2_with fail
  refine (net_new W).mono ?_
  rintro e w1 ⟨g, F, rfl, hN, h1, hF⟩
  have HN := Lib.hid hN
  clear hN
  go_wp2
  go_loopw [6, 7] (fun vw v wr => ∃ k : Nat, k ≤ ls.length ∧ v = .int .i64 k ∧ ∃ F A4 c4, vw = .slice A4 (pushes ls ts k).length c4 ∧ Hid (OrdSt W g (pushes ls ts k) F A4 c4 wr)) (fun _ v _ => ls.length - (intOf v).toNat)
  case atStart => exact ⟨0, by omega, rfl, F, none, 0, rfl, ⟨HN.out, hF, h1, World.ownsRow_nil _ _ _ _, fun x hx => by simp [Value.ownBlock] at hx⟩⟩
  case round =>
    clear HN hF h1 F
    obtain ⟨k, hk, rfl, F, A4, c4, rfl, HNk⟩ := hrel
    have h1 := HNk.out.grow
    by_cases hlt : k < ls.length
    · have hk0 : (0 : Int) ≤ k := by omega
      have hk1 : (k : Int) < ls.length := by omega
      have hk2 : (k : Int) < ts.length := by omega
      obtain ⟨ad, A', c', rfl, hc, hlc, hcm, hs⟩ := Hls.out.grow h1 k hlt
      obtain ⟨bd, rfl, hcb⟩ := (Hts.out.grow h1).cell k (by simp; omega)
      rw [List.getElem_map] at hcb
      have hgd : ls.getD k [] = ls[k] := by rw [List.getD_eq_getElem?_getD, List.getElem?_eq_getElem hlt, Option.getD_some]
      have hgt : ts.getD k false = ts[k] := by rw [List.getD_eq_getElem?_getD, List.getElem?_eq_getElem (by omega), Option.getD_some]
      have hzk := Hz.out ls[k] (List.getElem_mem hlt)
      generalize ls[k] = x at *
      generalize ts[k] = tk at *
      have Hgd := Lib.hid hgd
      have Hgt := Lib.hid hgt
      have Hzk := Lib.hid hzk
      have Hs := Lib.hid hs
      clear hgd hgt hzk hs
      have Hlen := Lib.hid (pushes_len ls ts k)
      have HB : Hid (Src Try.prog 1 23 (.slice A' x.length c') x.length (u8s x) wr) := Hs.out.src u_bytes (u8s_one x)
      cases tk
      all_goals
        go_wp2_with (at_builtin; refine wpList_app _ rfl _ _ 23 23 rfl wr.heap.size 5 (.int .u8 0) 1 1 u_bytes info_u8 rfl (.slice none 0 0) 0 [] rfl (.slice A' x.length c') x.length (u8s x) rfl ?_ (World.ownsRow_nil _ _ _ _) HB.out (by have := Hzk.out; simp only [maxLen]; omega) (by have := Hzk.out; omega) (Nat.le_refl _); intro v' w2 hap2; obtain ⟨A5, c5, rfl, _⟩ := own_slice hap2.own; rw [Nat.zero_add] at hap2 ⊢; have Hap2 := Lib.hid hap2; clear hap2)
      all_goals
        have hst := HNk.out.made Hap2.out
        have Hst := Lib.hid hst.1
        have Hbt := Lib.hid hst.2
        clear hst Hap2 HNk
        by_cases hx : x.length ≤ 200
        · refine (push_yes g (pushes ls ts k) F w2 Hst.out.net _ (by omega) (by omega) _ x (SliceR.of_own Hbt.out.own) hx (by have := Hlen.out; omega)).mono ?_
          rintro e w3 ⟨rfl, F2, hN2, h2, hF2⟩
          have HN2 := Lib.hid hN2
          have HF2 := Lib.hid hF2
          have q1 := conv_str (SliceR.of_own (own_keep Hbt.out.own h2 (fun y hy => (Hbt.out.apart y hy).1)))
          have how := own_keep Hst.out.own h2 (fun y hy => Hst.out.apart y hy)
          have Ho := Lib.hid how
          have hWs := Nat.le_trans Hst.out.grow.size h2.size
          have hx2 : (x.length : Int) ≤ 200 := by omega
          clear hN2 hF2 how
          go_wp2_with (at_builtin; refine wpList_app _ rfl _ _ 33 33 rfl W.heap.size 9 (.string ByteArray.empty) 1 16 u_strs info_str rfl (.slice A4 (pushes ls ts k).length c4) (pushes ls ts k).length (strs (wants (pushes ls ts k))) rfl (.slice (some ⟨w3.heap.size, 0, none⟩) 1 1) 1 [.string (strOfNums x)] rfl ?_ (by exact own_keep Ho.out ((Keep.refl NoB w3).alloc _) (fun _ _ h => h)) (by exact Src.ofSlice _ u_strs ⟨w3.heap.size, 0, none⟩ 1 1 _ rfl (World.news_of_block (cs := #[.string (strOfNums x)]) (t := 9) (fr := (0, 0)) (heap_alloc_new w3 _)) (by simp [Value.oneCell'])) (by have := Hlen.out; simp only [maxLen]; omega) (by have := Hlen.out; omega) (by simp; omega); intro v6 w4 hap4; obtain ⟨A6, c6, rfl, _⟩ := own_slice hap4.own; have Hap4 := Lib.hid hap4; clear hap4)
          have hgk : ∀ F' A' c' w', OrdSt W g (pushes ls ts k ++ [(_, x)]) F' A' c' w' → OrdSt W g (pushes ls ts (k + 1)) F' A' c' w' := fun F' A' c' w' h => by
            rw [pushes_yes ls ts k (by rw [Hgd.out]; exact hx), Hgd.out, Hgt.out]; exact h
          have hall := Hst.out.yes Hbt.out HN2.out h2 HF2.out Hap4.out
          have HS := Lib.hid (hgk _ _ _ _ hall.1)
          have HBt : Hid (OrdB W wr F2 (.slice A6 ((pushes ls ts k).length + 1) c6) A5 x.length c5 x w4) := by
            have := hall.2
            rw [List.length_append, List.length_singleton] at this
            exact this
          have Hnl : Hid ((pushes ls ts (k + 1)).length = (pushes ls ts k).length + 1) := by rw [pushes_yes ls ts k (by rw [Hgd.out]; exact hx)]; simp [Hid]
          clear hgk hall Hst Hbt HN2 h2 HF2 Hap4 Ho q1 hWs Hlen HB hc hcb Hs
          generalize (pushes ls ts k).length + 1 = nl at *
          clear hx hx2
          obtain ⟨wo, rfl⟩ : ∃ wo : World, wo = wr := ⟨_, rfl⟩
          go_loopw [10] (fun v wr2 => ∃ j : Nat, j ≤ x.length ∧ v = .int .i64 j ∧ ∃ y : List Int, Hid (y.length = x.length ∧ wr2.ownsRow wo.heap.size 5 1 (.slice A5 x.length c5) x.length (u8s y) ∧ Keep (fun q => (Value.slice A5 x.length c5).ownBlock = some q) w4 wr2)) (fun v _ => x.length - (intOf v).toNat)
          case atStart => exact ⟨0, by omega, rfl, x, rfl, HBt.out.own, Keep.refl _ _⟩
          case round =>
            obtain ⟨j, hj, rfl, y, Hy⟩ := hrel
            by_cases hjl : j < x.length
            · obtain ⟨hyl, hyo, hyk⟩ := Hy.out
              obtain ⟨r, c9, hv, hrb, _, hcell⟩ := own_cells hyo (by omega)
              obtain rfl : A5 = some ⟨r, 0, none⟩ := by injection hv
              have hcj := hcell j (.int .u8 y[j]) (by simp [hyl, hjl])
              rw [Nat.zero_add] at hcj
              have hfz := hyo.frozenAt j
              have hset := own_set (c := c5) hyo rfl j hjl (.int .u8 (IntKind.u8.wrap (y[j] + 1)))
              have hj0 : (0 : Int) ≤ j := by omega
              have hj1 : (j : Int) < x.length := by omega
              have Hset := Lib.hid hset
              have Hyk := Lib.hid hyk
              have Hyl := Lib.hid hyl
              clear hset hyk hyo hcell hv hrb
              generalize y[j] = yj at *
              clear hyl
              have hwr : IntKind.i64.wrap ((j : Int) + 1) = (j : Int) + 1 := IntWalk.i64_in _ (by have := Hzk.out; omega)
              go_wp2
              go_roundw
              case rel => exact ⟨j + 1, by omega, by go_num, y.set j (IntKind.u8.wrap (yj + 1)), by rw [List.length_set]; exact Hyl.out, by have := Hset.out.1; rw [← List.map_set] at this; exact this, Hyk.out.trans Hset.out.2 (fun i hi => .inl hi)⟩
              case measure => simp [intOf]; omega
            · obtain ⟨hyl, hyo, hyk⟩ := Hy.out
              have hfin : Hid (OrdSt W g (pushes ls ts (k + 1)) F2 A6 c6 wr) := HS.out.keep hyk (fun q hF hS => (HBt.out.apart q hS).1 hF) (fun q hA hS => (HBt.out.apart q hS).2.1 (by rw [Hnl.out] at hA; exact hA)) (fun q hS => (HBt.out.apart q hS).2.2)
              clear hyl hyo hyk Hy HS HBt
              go_wp2
              go_roundw
              case rel => exact ⟨k + 1, by omega, by go_num, F2, A6, c6, by rw [Hnl.out], hfin.out⟩
              case measure => simp [intOf]; omega
        · have hx2 : ¬ ((x.length : Int) ≤ 200) := by omega
          refine (push_no g (pushes ls ts k) F w2 Hst.out.net _ _ _ _ (by omega)).mono ?_
          rintro e w3 ⟨rfl, rfl⟩
          have hpk : pushes ls ts (k + 1) = pushes ls ts k := pushes_no ls ts k (by rw [Hgd.out]; exact hx)
          have HS : Hid (OrdSt W g (pushes ls ts (k + 1)) F A4 c4 w2) := by rw [hpk]; exact Hst.out
          have HBt := Lib.hid Hbt.out
          have Hnl : Hid ((pushes ls ts (k + 1)).length = (pushes ls ts k).length) := by rw [hpk]; rfl
          clear hpk Hst Hbt Hlen HB hc hcb Hs
          go_wp2
          generalize (pushes ls ts k).length = nl at *
          clear hx hx2
          obtain ⟨wo, rfl⟩ : ∃ wo : World, wo = wr := ⟨_, rfl⟩
          go_loopw [10] (fun v wr2 => ∃ j : Nat, j ≤ x.length ∧ v = .int .i64 j ∧ ∃ y : List Int, Hid (y.length = x.length ∧ wr2.ownsRow wo.heap.size 5 1 (.slice A5 x.length c5) x.length (u8s y) ∧ Keep (fun q => (Value.slice A5 x.length c5).ownBlock = some q) w2 wr2)) (fun v _ => x.length - (intOf v).toNat)
          case atStart => exact ⟨0, by omega, rfl, x, rfl, HBt.out.own, Keep.refl _ _⟩
          case round =>
            obtain ⟨j, hj, rfl, y, Hy⟩ := hrel
            by_cases hjl : j < x.length
            · obtain ⟨hyl, hyo, hyk⟩ := Hy.out
              obtain ⟨r, c9, hv, hrb, _, hcell⟩ := own_cells hyo (by omega)
              obtain rfl : A5 = some ⟨r, 0, none⟩ := by injection hv
              have hcj := hcell j (.int .u8 y[j]) (by simp [hyl, hjl])
              rw [Nat.zero_add] at hcj
              have hfz := hyo.frozenAt j
              have hset := own_set (c := c5) hyo rfl j hjl (.int .u8 (IntKind.u8.wrap (y[j] + 1)))
              have hj0 : (0 : Int) ≤ j := by omega
              have hj1 : (j : Int) < x.length := by omega
              have Hset := Lib.hid hset
              have Hyk := Lib.hid hyk
              have Hyl := Lib.hid hyl
              clear hset hyk hyo hcell hv hrb
              generalize y[j] = yj at *
              clear hyl
              have hwr : IntKind.i64.wrap ((j : Int) + 1) = (j : Int) + 1 := IntWalk.i64_in _ (by have := Hzk.out; omega)
              go_wp2
              go_roundw
              case rel => exact ⟨j + 1, by omega, by go_num, y.set j (IntKind.u8.wrap (yj + 1)), by rw [List.length_set]; exact Hyl.out, by have := Hset.out.1; rw [← List.map_set] at this; exact this, Hyk.out.trans Hset.out.2 (fun i hi => .inl hi)⟩
              case measure => simp [intOf]; omega
            · obtain ⟨hyl, hyo, hyk⟩ := Hy.out
              have hfin : Hid (OrdSt W g (pushes ls ts (k + 1)) F A4 c4 wr) := HS.out.keep hyk (fun q hF hS => (HBt.out.apart q hS).1 hF) (fun q hA hS => (HBt.out.apart q hS).2.1 (by rw [Hnl.out] at hA; exact hA)) (fun q hS => (HBt.out.apart q hS).2.2)
              clear hyl hyo hyk Hy HS HBt
              go_wp2
              go_roundw
              case rel => exact ⟨k + 1, by omega, by go_num, F, A4, c4, by rw [Hnl.out], hfin.out⟩
              case measure => simp [intOf]; omega
    · obtain rfl : k = ls.length := by omega
      have hlen := pushes_len ls ts ls.length
      have HT : Hid (OrdT W g 0 (pushes ls ts ls.length) F A4 c4 wr) := ⟨HNk.out.net, HNk.out.ge, HNk.out.grow, HNk.out.own, HNk.out.apart⟩
      clear HNk
      generalize pushes ls ts ls.length = P at *
      go_wp2
      go_loopw [11] (fun v wr => ∃ j : Nat, j ≤ P.length ∧ v = .int .i64 j ∧ ∃ F, Hid (OrdT W g j P F A4 c4 wr)) (fun v _ => P.length - (intOf v).toNat)
      case atStart => exact ⟨0, by omega, rfl, F, HT.out⟩
      case round =>
        clear HT F h1
        obtain ⟨j, hj, rfl, F, HT⟩ := hrel
        by_cases hjl : j < P.length
        · have hd : 0 < (P.drop j).length := by rw [List.length_drop]; omega
          have he : (P.drop j)[0] = P[j] := by simp
          go_wp2_with fail
          refine (nat_yes g (P.drop j) F 0 wr HT.out.net hd).mono ?_
          rintro e w2 ⟨A5, c5, rfl, ho5, h5⟩
          rw [he] at ho5 ⊢
          have Hb := Lib.hid (HT.out.net.b200 0 hd)
          rw [he] at Hb
          have Ho5 := Lib.hid ho5
          have H5 := Lib.hid h5
          clear ho5 h5
          obtain ⟨wo, rfl⟩ : ∃ wo : World, wo = wr := ⟨_, rfl⟩
          generalize hx : P[j].2 = x at *
          generalize P[j].1 = to at *
          have Hx := Lib.hid hx
          have He := Lib.hid he
          clear hx he
          go_wp2
          go_loopw [15] (fun v wr2 => ∃ q : Nat, q ≤ x.length ∧ v = .int .i64 q ∧ ∃ y : List Int, Hid (y.length = x.length ∧ wr2.ownsRow wo.heap.size 5 1 (.slice A5 x.length c5) x.length (u8s y) ∧ Keep (fun b => (Value.slice A5 x.length c5).ownBlock = some b) w2 wr2)) (fun v _ => x.length - (intOf v).toNat)
          case atStart => exact ⟨0, by omega, rfl, x, rfl, Ho5.out, Keep.refl _ _⟩
          case round =>
            obtain ⟨q, hq, rfl, y, Hy⟩ := hrel
            by_cases hql : q < x.length
            · obtain ⟨hyl, hyo, hyk⟩ := Hy.out
              obtain ⟨r, c9, hv, hrb, _, hcell⟩ := own_cells hyo (by omega)
              obtain rfl : A5 = some ⟨r, 0, none⟩ := by injection hv
              have hcj := hcell q (.int .u8 y[q]) (by simp [hyl, hql])
              rw [Nat.zero_add] at hcj
              have hfz := hyo.frozenAt q
              have hset := own_set (c := c5) hyo rfl q hql (.int .u8 (IntKind.u8.wrap (y[q] + 1)))
              have hj0 : (0 : Int) ≤ q := by omega
              have hj1 : (q : Int) < x.length := by omega
              have Hset := Lib.hid hset
              have Hyk := Lib.hid hyk
              have Hyl := Lib.hid hyl
              clear hset hyk hyo hcell hv hrb
              generalize y[q] = yj at *
              clear hyl
              have hwr : IntKind.i64.wrap ((q : Int) + 1) = (q : Int) + 1 := IntWalk.i64_in _ (by have := Hb.out; omega)
              go_wp2
              go_roundw
              case rel => exact ⟨q + 1, by omega, by go_num, y.set q (IntKind.u8.wrap (yj + 1)), by rw [List.length_set]; exact Hyl.out, by have := Hset.out.1; rw [← List.map_set] at this; exact this, Hyk.out.trans Hset.out.2 (fun i hi => .inl hi)⟩
              case measure => simp [intOf]; omega
            · obtain ⟨hyl, hyo, hyk⟩ := Hy.out
              have hG : Grow wo wr := Keep.trans H5.out hyk (fun i hi => .inr (Ho5.out.lt i hi).1)
              have HT3 := Lib.hid (HT.out.keep hG (fun _ h => h.elim))
              clear hyl hyo hyk Hy Ho5 HT hG H5
              go_wp2_with fail
              refine (take_yes g (P.drop j) F 0 wr HT3.out.net hd).mono ?_
              rintro e w4 ⟨A7, c7, B7, rfl, hf7, _, F7, hN7, hk7, hF7⟩
              rw [He.out, Hx.out] at hf7 ⊢
              have HT4 := Lib.hid (HT3.out.took hN7 hk7 (fun k hk => (hF7 k hk).1))
              obtain ⟨r, c8, hv, hrb, _, hcell⟩ := own_cells HT4.out.own (by omega)
              obtain rfl : A4 = some ⟨r, 0, none⟩ := by injection hv
              have hcj := hcell j (.string (strOfNums x)) (by rw [strs, wants, List.getElem?_map, List.getElem?_map, List.getElem?_eq_getElem hjl, ← Hx.out]; rfl)
              rw [Nat.zero_add] at hcj
              have hcd : w4.drew.cell? ⟨r, j, none⟩ = some (.string (strOfNums x)) := by simpa using hcj
              have hj0 : (0 : Int) ≤ j := by omega
              have hj1 : (j : Int) < P.length := by omega
              have Hf7 := Lib.hid hf7
              clear hf7 hN7 hk7 hF7 hcell hv hrb HT3
              go_wp2
              refine region_ord [0, 1, 2, 3, 4, 5, 6, 7, 8, 9, 10] [] [4, 8] [] rfl (by kernel_rfl) ?_
              iterate 3
                refine ord_pure rfl rfl rfl rfl rfl (fun _ _ _ _ h => h) ?_ ?_ ?_ ?_ ?_
                rotate_left 2
                · intro w'; go_simp; with_reducible rfl
                · simp only [Act.put, List.setIfInBounds_toArray, List.set_cons_zero, List.set_cons_succ]; rfl
              refine ord_pureG rfl rfl rfl rfl rfl (fun _ _ _ _ h => h) ?_ ?_ ?_ ?_ ?_
              rotate_left 2
              · intro w'; go_simp; with_reducible rfl
              · simp only [Act.put, List.setIfInBounds_toArray, List.set_cons_zero, List.set_cons_succ]; rfl
              refine ord_readG rfl rfl rfl rfl rfl (fun _ _ _ _ h => h) ?_ ?_ ?_ ?_ ?_
              rotate_left 2
              · intro w' hg; have q := conv_str (Hf7.out.now.grow ((Keep.refl NoB w4).drew.grow hg)); go_simp; with_reducible rfl
              · simp only [Act.put, List.setIfInBounds_toArray, List.set_cons_zero, List.set_cons_succ]; rfl
              iterate 3
                refine ord_pureG rfl rfl rfl rfl rfl (fun _ _ _ _ h => h) ?_ ?_ ?_ ?_ ?_
                rotate_left 2
                · intro w'; go_simp; with_reducible rfl
                · simp only [Act.put, List.setIfInBounds_toArray, List.set_cons_zero, List.set_cons_succ]; rfl
              refine ord_readG rfl rfl rfl rfl rfl (fun _ _ _ _ h => h) ?_ ?_ ?_ ?_ ?_
              rotate_left 2
              · intro w' hg; have q := hg.cell hcd (fun h => h); go_simp; with_reducible rfl
              · simp only [Act.put, List.setIfInBounds_toArray, List.set_cons_zero, List.set_cons_succ]; rfl
              refine ord_pureG rfl rfl rfl rfl rfl (fun _ _ _ _ h => h) ?_ ?_ ?_ ?_ ?_
              rotate_left 2
              · intro w'; go_simp; with_reducible rfl
              · simp only [Act.put, List.setIfInBounds_toArray, List.set_cons_zero, List.set_cons_succ]; rfl
              refine ord_pure rfl rfl rfl rfl rfl (fun _ _ _ _ h => h) ?_ ?_ ?_ ?_ ?_
              rotate_left 2
              · intro w'; go_simp; with_reducible rfl
              · simp only [Act.put, List.setIfInBounds_toArray, List.set_cons_zero, List.set_cons_succ]; rfl
              refine ord_nil ?_
              have HT5 : Hid (OrdT W g (j + 1) P F7 (some ⟨r, 0, none⟩) c4 w4.drew) := HT4.out.keep (S := NoB) (Keep.refl NoB w4).drew (fun _ h => h.elim)
              clear HT4 Hf7 hcj hcd
              go_wp2
              go_roundw
              case rel => exact ⟨j + 1, by omega, by go_num, F7, HT5.out⟩
              case measure => simp [intOf]; omega
        · obtain rfl : j = P.length := by omega
          have hl0 : (P.drop P.length).length = 0 := by simp
          go_wp2_with fail
          refine (nknown_calls wr).mono ?_
          rintro e w4 ⟨rfl, h4⟩
          go_wp2_with fail
          refine (nlen_calls g _ F w4 (HT.out.net.keep h4 (fun _ _ h => h))).mono ?_
          rintro e w5 ⟨rfl, rfl⟩
          rw [hl0]
          go_wp2
          go_ret
          exact ⟨rfl, HT.out.grow.grow h4⟩
end Go.Proofs.Ytimpnbkincgbmaa

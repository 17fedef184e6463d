import Derived.Test.YtfkcpaahdlkcdaaGreatM01
import Derived.LoopTactic
import Derived.Laws.Bits64b
/-! Joined: SdA, SdB, SdC, SdD, SdE. -/
/-! Arenas: words, sizes, what fits. -/
set_option linter.unusedSimpArgs false
set_option linter.unusedVariables false
namespace Go.Proofs.YtfkcpaahdlkcdaaGreat
open Go.RowKit

def ints (l : List Int) : List Value := l.map (Value.int .i64)
def u64s (l : List Int) : List Value := l.map (Value.int .u64)
theorem ints_one (l : List Int) : ∀ u ∈ ints l, u.oneCell' = true := by
  intro u hu
  obtain ⟨x, _, rfl⟩ := List.mem_map.1 hu
  rfl
theorem u64s_one (l : List Int) : ∀ u ∈ u64s l, u.oneCell' = true := by
  intro u hu
  obtain ⟨x, _, rfl⟩ := List.mem_map.1 hu
  rfl
theorem info_int : (Tryz.prog.info? 3).map (fun i => (i.zero, i.size, i.bytes)) = some (some (.int .i64 0), 1, 8) := by kernel_rfl
theorem u_ints : Tryz.prog.underlying 37 = some (.slice 3) := by kernel_rfl
theorem info_u64 : (Tryz.prog.info? 22).map (fun i => (i.zero, i.size, i.bytes)) = some (some (.int .u64 0), 1, 8) := by kernel_rfl
theorem u_u64s : Tryz.prog.underlying 111 = some (.slice 22) := by kernel_rfl

/-- A row that is read: its length, and its cells. -/
theorem SliceR.cut {size : Nat} {v : Value} {n : Nat} {vs : List Value} {w : World} (h : SliceR size v n vs w) : ∃ A c, v = .slice A n c := by
  obtain ⟨A, c, h1, _⟩ := h
  exact ⟨A, c, h1⟩
theorem SliceR.at1 {A : Option Addr} {n c : Nat} {vs : List Value} {w : World} (h : SliceR 1 (.slice A n c) n vs w) (i : Nat) (hi : i < vs.length) : ∃ ad, A = some ad ∧ w.cell? (ad.add i) = some vs[i] := by
  obtain ⟨A', c', e, h1, h2, h3, h4⟩ := h
  injection e with e1 e2 e3
  subst e1
  exact h4 i _ (List.getElem?_eq_getElem hi)
theorem SliceR.int_at {A : Option Addr} {c : Nat} {k : IntKind} {l : List Int} {w : World} (h : SliceR 1 (.slice A l.length c) l.length (l.map (Value.int k)) w) (i : Nat) (hi : i < l.length) : ∃ ad, A = some ad ∧ w.cell? (ad.add i) = some (.int k l[i]) := by
  obtain ⟨ad, e, hc⟩ := SliceR.at1 h i (by simpa using hi)
  exact ⟨ad, e, by simpa using hc⟩

/-- Rows of words, each read. -/
def RowsR (k : IntKind) (a : List (List Int)) (v : Value) (w : World) : Prop :=
  ∃ A c, v = .slice A a.length c ∧ ∀ i (h : i < a.length), ∃ ad A' c', A = some ad ∧ w.cell? (ad.add i) = some (.slice A' a[i].length c') ∧ SliceR 1 (.slice A' a[i].length c') a[i].length (a[i].map (Value.int k)) w
theorem RowsR.grow {k : IntKind} {a : List (List Int)} {v : Value} {w w' : World} (h : RowsR k a v w) (hg : Grow w w') : RowsR k a v w' := by
  obtain ⟨A, c, e, hr⟩ := h
  refine ⟨A, c, e, fun i hi => ?_⟩
  obtain ⟨ad, A', c', h1, h2, h3⟩ := hr i hi
  exact ⟨ad, A', c', h1, hg.cell h2 (fun h => h), h3.grow hg⟩
theorem RowsR.at_ {k : IntKind} {a : List (List Int)} {A : Option Addr} {c : Nat} {w : World} (h : RowsR k a (.slice A a.length c) w) (i : Nat) (hi : i < a.length) : ∃ ad A' c', A = some ad ∧ w.cell? (ad.add i) = some (.slice A' a[i].length c') ∧ SliceR 1 (.slice A' a[i].length c') a[i].length (a[i].map (Value.int k)) w := by
  obtain ⟨A1, c1, e, hr⟩ := h
  injection e with e1 e2 e3
  subst e1
  exact hr i hi
theorem RowsR.slice {k : IntKind} {a : List (List Int)} {v : Value} {w : World} (h : RowsR k a v w) : ∃ A c, v = .slice A a.length c := by
  obtain ⟨A, c, e, _⟩ := h
  exact ⟨A, c, e⟩

theorem add_yes (a b m : Int) (w : World) (h0 : 0 ≤ a) (h1 : 0 ≤ b) (h2 : a ≤ m) (h3 : b ≤ m - a) (hm : m ≤ 9223372036854775807) : Calls Tryz.prog 246 #[.int .i64 a, .int .i64 b, .int .i64 m] w fun e w' => e = .returned (.tuple #[.int .i64 (a + b), .bool true]) ∧ w = w' := by
  have hw : IntKind.i64.wrap (m - a) = m - a := IntWalk.i64_in _ (by omega)
  have hs : IntKind.i64.wrap (a + b) = a + b := IntWalk.i64_in _ (by omega)
  go_enter Tryz.func246, Tryz.ntmps246
  rcases Int.lt_trichotomy a b with hl | rfl | hl
  all_goals
    go_wp2
    go_ret2
    exact ⟨by simp, rfl⟩
theorem add_no (a b m : Int) (w : World) (h : a < 0 ∨ b < 0 ∨ m < a ∨ m - a < b) (ha : -9223372036854775808 ≤ a) (hm0 : 0 ≤ m) (hm : m ≤ 9223372036854775807) : Calls Tryz.prog 246 #[.int .i64 a, .int .i64 b, .int .i64 m] w fun e w' => e = .returned (.tuple #[.int .i64 0, .bool false]) ∧ w = w' := by
  by_cases h0 : a < 0
  · clear h
    go_enter Tryz.func246, Tryz.ntmps246
    rcases Int.lt_trichotomy a b with hl | rfl | hl
    all_goals
      go_wp2
      go_ret2
      exact ⟨rfl, rfl⟩
  by_cases h1 : b < 0
  · clear h
    go_enter Tryz.func246, Tryz.ntmps246
    have hl : b < a := by omega
    go_wp2
    go_ret2
    exact ⟨rfl, rfl⟩
  by_cases h2 : m < a
  · clear h
    go_enter Tryz.func246, Tryz.ntmps246
    rcases Int.lt_trichotomy a b with hl | rfl | hl
    all_goals
      go_wp2
      go_ret2
      exact ⟨rfl, rfl⟩
  · have h3 : m - a < b := by omega
    have hw : IntKind.i64.wrap (m - a) = m - a := IntWalk.i64_in _ (by omega)
    clear h
    go_enter Tryz.func246, Tryz.ntmps246
    rcases Int.lt_trichotomy a b with hl | rfl | hl
    all_goals
      go_wp2
      go_ret2
      exact ⟨rfl, rfl⟩

theorem ceil_calls (n d : Int) (w : World) (h0 : 0 ≤ n) (h1 : n ≤ 9007199254740992) (h2 : 1 ≤ d) (h3 : d ≤ 9007199254740992) : Calls Tryz.prog 140 #[.int .i64 n, .int .i64 d] w fun e w' => e = .returned (.int .i64 ((n + d - 1) / d)) ∧ w = w' := by
  go_enter Tryz.func140, Tryz.ntmps140
  go_wp2
  go_ret
  trace_state
  exact ⟨rfl, rfl⟩
end Go.Proofs.YtfkcpaahdlkcdaaGreat
set_option linter.unusedSimpArgs false
set_option linter.unusedVariables false
namespace Go.Proofs.YtfkcpaahdlkcdaaGreat
open Go.RowKit

/-- An arena as lists: so many segments, so many words, each a number. -/
structure OkA (a : List (List Int)) : Prop where
  segs : a.length ≤ 100000
  words : ∀ s ∈ a, s.length ≤ 100000
  nums : ∀ s ∈ a, ∀ x ∈ s, 0 ≤ x ∧ x ≤ 18446744073709551615
def szs (a : List (List Int)) : List Int := a.map (fun s => (s.length : Int))
theorem szs_length (a : List (List Int)) : (szs a).length = a.length := by simp [szs]

set_option maxRecDepth 100000 in
theorem sizes_calls (a : List (List Int)) (v : Value) (w : World) (h : RowsR .u64 a v w) (ha : a.length ≤ 100000) :
    Calls Tryz.prog 136 #[v] w fun e w' => ∃ A c, e = .returned (.slice A (szs a).length c) ∧ Grow w w' ∧ w'.ownsRow w.heap.size 3 1 (.slice A (szs a).length c) (szs a).length (ints (szs a)) := by
  obtain ⟨A, n, rfl⟩ := h.slice
  have H := Lib.hid h
  clear h
  go_enter Tryz.func136, Tryz.ntmps136
  go_wp2
  go_loopw [3, 8] (fun vo v wr => ∃ k : Nat, k ≤ a.length ∧ v = .int .i64 k ∧ ∃ A4 c4, vo = .slice A4 k c4 ∧ Hid (Grow w wr ∧ wr.ownsRow w.heap.size 3 1 (.slice A4 k c4) k (ints ((szs a).take k)))) (fun _ v _ => a.length - (intOf v).toNat)
  case atStart => exact ⟨0, by omega, rfl, none, 0, rfl, Keep.refl _ _, by simpa [ints] using World.ownsRow_nil w w.heap.size 3 1⟩
  case round =>
    obtain ⟨k, hk, rfl, A4, c4, rfl, HS⟩ := hrel
    by_cases hlt : k < a.length
    · obtain ⟨ad, A', c', rfl, h2, _⟩ := (H.out.grow HS.out.1).at_ k hlt
      have hw : IntKind.i64.wrap ((k : Int) + 1) = (k : Int) + 1 := IntWalk.i64_in _ (by omega)
      have hlt' : (k : Int) < a.length := by omega
      have e1 : ints ((szs a).take (k + 1)) = ints ((szs a).take k) ++ [.int .i64 a[k].length] := by
        rw [List.take_succ_eq_append_getElem (by simpa [szs] using hlt)]
        simp [ints, szs]
      have E1 := Lib.hid e1
      clear e1
      go_wp2_with (at_builtin; refine wpList_app _ rfl _ _ 37 37 rfl w.heap.size 3 (.int .i64 0) 1 8 u_ints info_int rfl (.slice A4 k c4) k (ints ((szs a).take k)) rfl (.slice (some ⟨wr.heap.size, 0, none⟩) 1 1) 1 [.int .i64 a[k].length] rfl ?_ (by exact own_keep HS.out.2 ((Keep.refl NoB wr).alloc _) (fun _ _ h => h)) (by exact Src.ofSlice _ u_ints ⟨wr.heap.size, 0, none⟩ 1 1 _ rfl (World.news_of_block (cs := #[.int .i64 a[k].length]) (t := 3) (fr := (0, 0)) (heap_alloc_new wr _)) (by simp [Value.oneCell'])) (by simp only [maxLen]; omega) (by omega) (by have := HS.out.1.size; simp; omega); intro v2 w2 hap; refine Hid.out ?_)
      refine Lib.hid ?_
      have Hg2 : Hid (Grow w w2) := ((((HS.out.1.mono (T := fun k => w.heap.size ≤ k) (fun _ h => h.elim)).alloc _).grown hap.grew (fun k hk => .inl (HS.out.2.lt k hk).1))).new (fun _ h => h)
      have Ho2 := Lib.hid hap.own
      obtain ⟨A6, c6, rfl, _⟩ := own_slice hap.own
      clear hap
      rw [← E1.out] at Ho2
      go_wp2
      go_roundw
      case rel => exact ⟨k + 1, by omega, by go_num, A6, c6, rfl, Hg2.out, Ho2.out⟩
      case measure => simp [intOf]; omega
    · obtain rfl : k = a.length := by omega
      have hlt' : ¬ ((a.length : Int) < a.length) := by omega
      go_wp2
      go_ret
      have ho := HS.out.2
      rw [← szs_length a, List.take_length] at ho
      exact ⟨A4, c4, by rw [szs_length]; rfl, HS.out.1, ho⟩

/-- May segments have so many words? -/
def fitsB (l : List Int) : Bool := decide (1 ≤ l.length ∧ l.length ≤ 16 ∧ 1 ≤ l.headD 0 ∧ (∀ x ∈ l, 0 ≤ x) ∧ l.sum ≤ 4096)
theorem sum_take_le {l : List Int} (h : ∀ x ∈ l, 0 ≤ x) (k : Nat) : (l.take k).sum ≤ l.sum := by
  induction l generalizing k with
  | nil => simp
  | cons x r ih =>
    cases k with
    | zero =>
      have h1 := ih (fun y hy => h y (by simp [hy])) 0
      have := h x (by simp)
      simp at h1 ⊢
      omega
    | succ k =>
      have h1 := ih (fun y hy => h y (by simp [hy])) k
      simp
      omega
theorem sum_take_succ {l : List Int} {k : Nat} (hk : k < l.length) : (l.take (k + 1)).sum = (l.take k).sum + l[k] := by
  rw [List.take_succ_eq_append_getElem hk, List.sum_append]
  simp

set_option maxRecDepth 100000 in
theorem fits_calls (A : Option Addr) (c : Nat) (l : List Int) (w : World) (h : SliceR 1 (.slice A l.length c) l.length (ints l) w) (hb : ∀ x ∈ l, -9223372036854775808 ≤ x ∧ x ≤ 9223372036854775807) :
    Calls Tryz.prog 203 #[.slice A l.length c] w fun e w' => e = .returned (.bool (fitsB l)) ∧ w = w' := by
  have H := Lib.hid h
  have HB := Lib.hid hb
  clear h hb
  by_cases h0 : l.length = 0
  · have hf : fitsB l = false := by simp [fitsB, h0]
    have HF := Lib.hid hf
    clear hf
    have h1 : (l.length : Int) < 1 := by omega
    clear h0
    go_enter Tryz.func203, Tryz.ntmps203
    go_wp2
    go_ret
    exact ⟨by rw [HF.out]; rfl, rfl⟩
  have h1 : ¬ ((l.length : Int) < 1) := by omega
  by_cases h16 : 16 < l.length
  · have hf : fitsB l = false := by simp [fitsB]; omega
    have HF := Lib.hid hf
    clear hf
    have h2 : (16 : Int) < l.length := by omega
    go_enter Tryz.func203, Tryz.ntmps203
    go_wp2
    go_ret
    exact ⟨by rw [HF.out]; rfl, rfl⟩
  have h2 : ¬ ((16 : Int) < l.length) := by omega
  obtain ⟨ad, rfl, q0⟩ := SliceR.int_at (k := .i64) H.out 0 (by omega)
  have q0' : w.cell? ad = some (.int .i64 l[0]) := by simpa [Addr.add] using q0
  have hhd : l.headD 0 = l[0] := by
    cases l with
    | nil => simp at h0
    | cons x r => rfl
  clear q0
  by_cases hx : l[0] < 1
  · have hf : fitsB l = false := decide_eq_false (fun ⟨_, _, g, _⟩ => by omega)
    have HF := Lib.hid hf
    clear hf hhd h0
    go_enter Tryz.func203, Tryz.ntmps203
    go_wp2
    go_ret
    exact ⟨by rw [HF.out]; rfl, rfl⟩
  · have Hh := Lib.hid hhd
    clear hhd h0
    go_enter Tryz.func203, Tryz.ntmps203
    go_wp2
    clear q0'
    go_loopw [3, 24] (fun vn v wr => wr = w ∧ ∃ k : Nat, k ≤ l.length ∧ v = .int .i64 k ∧ vn = .int .i64 (l.take k).sum ∧ Hid ((∀ x ∈ l.take k, 0 ≤ x) ∧ 0 ≤ (l.take k).sum ∧ (l.take k).sum ≤ 4096)) (fun _ v _ => l.length - (intOf v).toNat)
    case atStart => exact ⟨rfl, 0, by omega, rfl, by simp, by intro x hx; simp at hx, by simp⟩
    case round =>
      obtain ⟨rfl, k, hk, rfl, rfl, HS⟩ := hrel
      by_cases hlt : k < l.length
      · obtain ⟨ad2, e, q1⟩ := SliceR.int_at (k := .i64) H.out k hlt
        injection e with e
        subst e
        have hw : IntKind.i64.wrap ((k : Int) + 1) = (k : Int) + 1 := IntWalk.i64_in _ (by omega)
        have hlt' : (k : Int) < l.length := by omega
        have hsu := sum_take_succ hlt
        have hs0 := HS.out.2.1
        have hs1 := HS.out.2.2
        by_cases hok : 0 ≤ l[k] ∧ l[k] ≤ 4096 - (l.take k).sum
        · have Hsu := Lib.hid hsu
          have HS2 : Hid ((∀ x ∈ l.take (k + 1), 0 ≤ x) ∧ 0 ≤ (l.take (k + 1)).sum ∧ (l.take (k + 1)).sum ≤ 4096) := by
            refine ⟨?_, by omega, by omega⟩
            rw [List.take_succ_eq_append_getElem hlt]
            intro x hx
            rcases List.mem_append.1 hx with e | e
            · exact HS.out.1 x e
            · rw [List.mem_singleton.1 e]; exact hok.1
          have hA := hok.1
          have hB := hok.2
          clear hsu hok
          go_wp2_with fail
          refine (add_yes _ _ 4096 wr hs0 hA hs1 hB (by omega)).mono ?_
          rintro e w' ⟨rfl, rfl⟩
          rw [← Hsu.out]
          go_wp2
          go_roundw
          case rel => exact ⟨trivial, k + 1, by omega, by go_num, rfl, HS2⟩
          case measure => simp [intOf]; omega
        · have hf : fitsB l = false := by
            have hn : ¬ ((∀ x ∈ l, 0 ≤ x) ∧ l.sum ≤ 4096) := fun ⟨g1, g2⟩ => hok ⟨g1 _ (List.getElem_mem hlt), by have := sum_take_le g1 (k + 1); omega⟩
            exact decide_eq_false (fun ⟨_, _, _, g1, g2⟩ => hn ⟨g1, g2⟩)
          have HF := Lib.hid hf
          have hlo := (HB.out _ (List.getElem_mem hlt)).1
          clear hf hsu
          go_wp2_with fail
          refine (add_no (l.take k).sum l[k] 4096 wr (by omega) (by omega) (by omega) (by omega)).mono ?_
          rintro e w' ⟨rfl, rfl⟩
          clear hok
          go_wp2
          go_ret
          exact ⟨by rw [HF.out]; rfl, rfl⟩
      · obtain rfl : k = l.length := by omega
        have hlt' : ¬ ((l.length : Int) < l.length) := by omega
        have hf : fitsB l = true := by
          have hS := HS.out
          rw [List.take_length] at hS
          exact decide_eq_true ⟨by omega, by omega, by rw [Hh.out]; omega, hS.1, hS.2.2⟩
        have HF := Lib.hid hf
        clear hf
        go_wp2
        go_ret
        exact ⟨by rw [HF.out]; rfl, rfl⟩
end Go.Proofs.YtfkcpaahdlkcdaaGreat
set_option linter.unusedSimpArgs false
set_option linter.unusedVariables false
namespace Go.Proofs.YtfkcpaahdlkcdaaGreat
open Go.RowKit

theorem szs_ok {a : List (List Int)} (h : OkA a) : ∀ x ∈ szs a, 0 ≤ x ∧ x ≤ 100000 := by
  intro x hx
  obtain ⟨s, hs, rfl⟩ := List.mem_map.1 hx
  have := h.words s hs
  omega

theorem right_calls (a : List (List Int)) (v : Value) (w : World) (h : RowsR .u64 a v w) (ha : OkA a) :
    Calls Tryz.prog 132 #[v] w fun e w' => e = .returned (.bool (fitsB (szs a))) ∧ Grow w w' := by
  obtain ⟨A, n, rfl⟩ := h.slice
  have H := Lib.hid h
  have HA := Lib.hid ha
  clear h ha
  go_enter Tryz.func132, Tryz.ntmps132
  go_wp2_with fail
  refine (sizes_calls a _ w H.out HA.out.segs).mono ?_
  rintro e w1 ⟨A1, c1, rfl, hg, ho⟩
  have Hg := Lib.hid hg
  have Ho := Lib.hid (SliceR.of_own ho)
  clear hg ho
  go_wp2_with fail
  refine (fits_calls A1 c1 (szs a) w1 Ho.out (fun x hx => by have := szs_ok HA.out x hx; omega)).mono ?_
  rintro e w' ⟨rfl, rfl⟩
  go_wp2
  go_ret
  exact ⟨rfl, Hg.out⟩

def withinB (l : List Int) (seg at_ n : Int) : Bool := decide (0 ≤ seg ∧ seg < l.length ∧ 0 ≤ at_ ∧ 0 ≤ n ∧ at_ + n ≤ l.getD seg.toNat 0)
set_option maxRecDepth 100000 in
theorem within_calls (A : Option Addr) (c : Nat) (l : List Int) (w : World) (h : SliceR 1 (.slice A l.length c) l.length (ints l) w) (hb : ∀ x ∈ l, 0 ≤ x ∧ x ≤ 100000) (seg at_ n : Int) (hat : -9223372036854775808 ≤ at_) :
    Calls Tryz.prog 275 #[.slice A l.length c, .int .i64 seg, .int .i64 at_, .int .i64 n] w fun e w' => e = .returned (.bool (withinB l seg at_ n)) ∧ w = w' := by
  have H := Lib.hid h
  have HB := Lib.hid hb
  clear h hb
  by_cases h0 : seg < 0
  · have HF : Hid (withinB l seg at_ n = false) := decide_eq_false (fun ⟨g, _⟩ => by omega)
    go_enter Tryz.func275, Tryz.ntmps275
    go_wp2
    go_ret
    exact ⟨by rw [HF.out]; rfl, rfl⟩
  by_cases h1 : (l.length : Int) ≤ seg
  · have HF : Hid (withinB l seg at_ n = false) := decide_eq_false (fun ⟨_, g, _⟩ => by omega)
    go_enter Tryz.func275, Tryz.ntmps275
    go_wp2
    go_ret
    exact ⟨by rw [HF.out]; rfl, rfl⟩
  obtain ⟨k, rfl⟩ : ∃ k : Nat, seg = k := ⟨seg.toNat, by omega⟩
  have hk : k < l.length := by omega
  obtain ⟨ad, rfl, q0⟩ := SliceR.int_at (k := .i64) H.out k hk
  have hb := HB.out _ (List.getElem_mem hk)
  have hgd : l.getD k 0 = l[k] := by simp [List.getD_eq_getElem?_getD, List.getElem?_eq_getElem hk]
  have hk' : (k : Int) < l.length := by omega
  by_cases hok : 0 ≤ at_ ∧ 0 ≤ n ∧ at_ + n ≤ l[k]
  · have HF : Hid (withinB l k at_ n = true) := decide_eq_true ⟨by omega, by omega, hok.1, hok.2.1, by rw [Int.toNat_natCast, hgd]; exact hok.2.2⟩
    have hb2 := hb.2
    obtain ⟨o1, o2, o3⟩ := hok
    clear hgd hb
    go_enter Tryz.func275, Tryz.ntmps275
    go_wp2_with fail
    refine (add_yes at_ n l[k] w o1 o2 (by omega) (by omega) (by omega)).mono ?_
    rintro e w' ⟨rfl, rfl⟩
    go_wp2
    go_ret
    exact ⟨by rw [HF.out]; rfl, rfl⟩
  · have HF : Hid (withinB l k at_ n = false) := decide_eq_false (fun ⟨_, _, g1, g2, g3⟩ => hok ⟨g1, g2, by rw [Int.toNat_natCast, hgd] at g3; exact g3⟩)
    have hno : at_ < 0 ∨ n < 0 ∨ l[k] < at_ ∨ l[k] - at_ < n := by omega
    have Hno := Lib.hid hno
    clear hno
    have hb1 := hb.1
    have hb2 := hb.2
    clear hgd hb hok
    go_enter Tryz.func275, Tryz.ntmps275
    go_wp2_with fail
    refine (add_no at_ n l[k] w Hno.out hat hb1 (by omega)).mono ?_
    rintro e w' ⟨rfl, rfl⟩
    go_wp2
    go_ret
    exact ⟨by rw [HF.out]; rfl, rfl⟩

/-- A word of an arena, and the error. -/
def wordA (a : List (List Int)) (seg at_ : Int) : Int × Int :=
  if 0 ≤ seg ∧ seg < a.length ∧ 0 ≤ at_ ∧ at_ < (a.getD seg.toNat []).length then ((a.getD seg.toNat []).getD at_.toNat 0, 0) else (0, 20)
theorem wordA_no {a : List (List Int)} {seg at_ : Int} (h : ¬ (0 ≤ seg ∧ seg < a.length ∧ 0 ≤ at_ ∧ at_ < (a.getD seg.toNat []).length)) : wordA a seg at_ = (0, 20) := if_neg h
set_option maxRecDepth 100000 in
theorem word_calls (a : List (List Int)) (v : Value) (w : World) (h : RowsR .u64 a v w) (seg at_ : Int) :
    Calls Tryz.prog 318 #[v, .int .i64 seg, .int .i64 at_] w fun e w' => e = .returned (.tuple #[.int .u64 (wordA a seg at_).1, .int .u16 (wordA a seg at_).2]) ∧ w = w' := by
  obtain ⟨A, n, rfl⟩ := h.slice
  have H := Lib.hid h
  clear h
  by_cases h0 : seg < 0
  · rw [wordA_no (fun ⟨g, _⟩ => by omega)]
    go_enter Tryz.func318, Tryz.ntmps318
    go_wp2
    go_ret2
    exact ⟨rfl, rfl⟩
  by_cases h1 : (a.length : Int) ≤ seg
  · rw [wordA_no (fun ⟨_, g, _⟩ => by omega)]
    go_enter Tryz.func318, Tryz.ntmps318
    go_wp2
    go_ret2
    exact ⟨rfl, rfl⟩
  by_cases h2 : at_ < 0
  · rw [wordA_no (fun ⟨_, _, g, _⟩ => by omega)]
    go_enter Tryz.func318, Tryz.ntmps318
    go_wp2
    go_ret2
    exact ⟨rfl, rfl⟩
  obtain ⟨k, rfl⟩ : ∃ k : Nat, seg = k := ⟨seg.toNat, by omega⟩
  obtain ⟨i, rfl⟩ : ∃ i : Nat, at_ = i := ⟨at_.toNat, by omega⟩
  have hk : k < a.length := by omega
  obtain ⟨ad, A', c', rfl, q0, hs⟩ := H.out.at_ k hk
  have hgd : a.getD k [] = a[k] := by simp [List.getD_eq_getElem?_getD, List.getElem?_eq_getElem hk]
  have hk' : (k : Int) < a.length := by omega
  by_cases hi : i < a[k].length
  · have hi' : (i : Int) < a[k].length := by omega
    obtain ⟨ad2, rfl, q1⟩ := SliceR.int_at (k := .u64) hs i hi
    have HF : Hid (wordA a k i = (a[k][i], 0)) := by
      show _ = _
      unfold wordA
      rw [if_pos ⟨by omega, by omega, by omega, by rw [Int.toNat_natCast, hgd]; exact hi'⟩, Int.toNat_natCast, hgd, Int.toNat_natCast]
      simp [List.getD_eq_getElem?_getD, List.getElem?_eq_getElem hi]
    clear hgd hs h2
    go_enter Tryz.func318, Tryz.ntmps318
    go_wp2
    go_ret2
    rw [HF.out]
    exact ⟨rfl, rfl⟩
  · have hi' : (a[k].length : Int) ≤ i := by omega
    have HF : Hid (wordA a k i = (0, 20)) := wordA_no (fun ⟨_, _, _, g⟩ => by rw [Int.toNat_natCast, hgd] at g; omega)
    clear hgd hs h2
    go_enter Tryz.func318, Tryz.ntmps318
    go_wp2
    go_ret2
    rw [HF.out]
    exact ⟨rfl, rfl⟩

theorem wsizes_calls (a : List (List Int)) (v : Value) (w : World) (h : RowsR .u64 a v w) (ha : OkA a) :
    Calls Tryz.prog 316 #[.agg #[v]] w fun e w' => ∃ A c, e = .returned (.slice A (szs a).length c) ∧ Grow w w' ∧ SliceR 1 (.slice A (szs a).length c) (szs a).length (ints (szs a)) w' := by
  obtain ⟨A, n, rfl⟩ := h.slice
  have hw1 : Grow w (w.alloc (.cells #[.slice A a.length n] 363)) := (Keep.refl _ _).alloc _
  have H := Lib.hid (h.grow hw1)
  have Hw := Lib.hid hw1
  have HA := Lib.hid ha
  clear h ha hw1
  go_enter Tryz.func316, Tryz.ntmps316
  go_wp2_with fail
  refine (sizes_calls a _ _ H.out HA.out.segs).mono ?_
  rintro e w1 ⟨A1, c1, rfl, hg, ho⟩
  have Hg := Lib.hid hg
  have Ho := Lib.hid (SliceR.of_own ho)
  clear hg ho
  go_wp2
  go_ret
  exact ⟨A1, c1, rfl, Hw.out.grow Hg.out, Ho.out⟩
theorem wword_calls (a : List (List Int)) (v : Value) (w : World) (h : RowsR .u64 a v w) (seg at_ : Int) :
    Calls Tryz.prog 317 #[.agg #[v], .int .i64 seg, .int .i64 at_] w fun e w' => e = .returned (.tuple #[.int .u64 (wordA a seg at_).1, .int .u16 (wordA a seg at_).2]) ∧ Grow w w' := by
  obtain ⟨A, n, rfl⟩ := h.slice
  have hw1 : Grow w (w.alloc (.cells #[.slice A a.length n] 363)) := (Keep.refl _ _).alloc _
  have H := Lib.hid (h.grow hw1)
  have Hw := Lib.hid hw1
  clear h hw1
  go_enter Tryz.func317, Tryz.ntmps317
  go_wp2_with fail
  refine (word_calls a _ _ H.out seg at_).mono ?_
  rintro e w' ⟨rfl, rfl⟩
  go_wp2
  go_ret2
  exact ⟨rfl, Hw.out⟩

/-- A source of words, behind its interface. -/
structure Sou (sv : Value) (sz : List Int) (wd : Int → Int → Int × Int) (w : World) : Prop where
  out : ∃ T pv fw fs r, sv = .iface T pv ∧
    (∀ w', (method 494 T pv "Word").run Tryz.prog w' = .ok (fw, r) w') ∧ (∀ w', (method 494 T pv "Sizes").run Tryz.prog w' = .ok (fs, r) w') ∧
    (∀ w' x y, (callFunc fw #[r, x, y]).run Tryz.prog w' = .ok (.enter fw #[r, x, y]) w') ∧ (∀ w', (callFunc fs #[r]).run Tryz.prog w' = .ok (.enter fs #[r]) w') ∧
    (∀ w', Grow w w' → ∀ seg at_, Calls Tryz.prog fw #[r, .int .i64 seg, .int .i64 at_] w' fun e w2 => e = .returned (.tuple #[.int .u64 (wd seg at_).1, .int .u16 (wd seg at_).2]) ∧ Grow w' w2) ∧
    (∀ w', Grow w w' → Calls Tryz.prog fs #[r] w' fun e w2 => ∃ A c, e = .returned (.slice A sz.length c) ∧ Grow w' w2 ∧ SliceR 1 (.slice A sz.length c) sz.length (ints sz) w2)
theorem whole_word (v : Value) (w : World) : (method 494 363 (.agg #[v]) "Word").run Tryz.prog w = .ok (317, .agg #[v]) w := by kernel_rfl
theorem whole_sizes (v : Value) (w : World) : (method 494 363 (.agg #[v]) "Sizes").run Tryz.prog w = .ok (316, .agg #[v]) w := by kernel_rfl
theorem Sou.grow {sv : Value} {sz : List Int} {wd : Int → Int → Int × Int} {w w' : World} (h : Sou sv sz wd w) (hg : Grow w w') : Sou sv sz wd w' := by
  obtain ⟨T, pv, fw, fs, r, h1, h2, h3, k1, k2, h4, h5⟩ := h.out
  exact ⟨T, pv, fw, fs, r, h1, h2, h3, k1, k2, fun w2 hg2 => h4 w2 (hg.grow hg2), fun w2 hg2 => h5 w2 (hg.grow hg2)⟩
theorem sou_whole {a : List (List Int)} {v : Value} {w : World} (h : RowsR .u64 a v w) (ha : OkA a) : Sou (.iface 363 (.agg #[v])) (szs a) (wordA a) w :=
  ⟨_, _, _, _, _, rfl, whole_word v, whole_sizes v, fun _ _ _ => by kernel_rfl, fun _ => by kernel_rfl, fun w' hg seg at_ => wword_calls a v w' (h.grow hg) seg at_, fun w' hg => wsizes_calls a v w' (h.grow hg) ha⟩
theorem whole_calls (A : Option Addr) (n c : Nat) (w : World) : Calls Tryz.prog 243 #[.slice A n c] w fun e w' => e = .returned (.iface 363 (.agg #[.slice A n c])) ∧ w = w' := by
  go_enter Tryz.func243, Tryz.ntmps243
  go_wp2
  go_ret
  exact ⟨rfl, rfl⟩
end Go.Proofs.YtfkcpaahdlkcdaaGreat
set_option linter.unusedSimpArgs false
set_option linter.unusedVariables false
namespace Go.Proofs.YtfkcpaahdlkcdaaGreat
open Go.RowKit

theorem fkind_calls (w : World) : Calls Tryz.prog 277 #[] w fun e w' => e = .returned (.agg #[.int .i64 0, .int .i64 2]) ∧ Grow w w' := by
  go_enter Tryz.func277, Tryz.ntmps277
  go_wp2
  (try simp only [Exit.inBlock, Exit.then])
  refine bodyPost_ret (v := .agg #[.int .i64 0, .int .i64 2]) ?_ rfl ⟨rfl, (Keep.refl _ _).alloc _⟩
  simp [results, Tryz.results277, go_sem]
theorem foff_calls (w : World) : Calls Tryz.prog 287 #[] w fun e w' => e = .returned (.agg #[.int .i64 2, .int .i64 30]) ∧ Grow w w' := by
  go_enter Tryz.func287, Tryz.ntmps287
  go_wp2
  (try simp only [Exit.inBlock, Exit.then])
  refine bodyPost_ret (v := .agg #[.int .i64 2, .int .i64 30]) ?_ rfl ⟨rfl, (Keep.refl _ _).alloc _⟩
  simp [results, Tryz.results287, go_sem]
theorem fdata_calls (w : World) : Calls Tryz.prog 279 #[] w fun e w' => e = .returned (.agg #[.int .i64 32, .int .i64 16]) ∧ Grow w w' := by
  go_enter Tryz.func279, Tryz.ntmps279
  go_wp2
  (try simp only [Exit.inBlock, Exit.then])
  refine bodyPost_ret (v := .agg #[.int .i64 32, .int .i64 16]) ?_ rfl ⟨rfl, (Keep.refl _ _).alloc _⟩
  simp [results, Tryz.results279, go_sem]
theorem fptrs_calls (w : World) : Calls Tryz.prog 280 #[] w fun e w' => e = .returned (.agg #[.int .i64 48, .int .i64 16]) ∧ Grow w w' := by
  go_enter Tryz.func280, Tryz.ntmps280
  go_wp2
  (try simp only [Exit.inBlock, Exit.then])
  refine bodyPost_ret (v := .agg #[.int .i64 48, .int .i64 16]) ?_ rfl ⟨rfl, (Keep.refl _ _).alloc _⟩
  simp [results, Tryz.results280, go_sem]
theorem fsize_calls (w : World) : Calls Tryz.prog 281 #[] w fun e w' => e = .returned (.agg #[.int .i64 32, .int .i64 3]) ∧ Grow w w' := by
  go_enter Tryz.func281, Tryz.ntmps281
  go_wp2
  (try simp only [Exit.inBlock, Exit.then])
  refine bodyPost_ret (v := .agg #[.int .i64 32, .int .i64 3]) ?_ rfl ⟨rfl, (Keep.refl _ _).alloc _⟩
  simp [results, Tryz.results281, go_sem]
theorem fcount_calls (w : World) : Calls Tryz.prog 282 #[] w fun e w' => e = .returned (.agg #[.int .i64 35, .int .i64 29]) ∧ Grow w w' := by
  go_enter Tryz.func282, Tryz.ntmps282
  go_wp2
  (try simp only [Exit.inBlock, Exit.then])
  refine bodyPost_ret (v := .agg #[.int .i64 35, .int .i64 29]) ?_ rfl ⟨rfl, (Keep.refl _ _).alloc _⟩
  simp [results, Tryz.results282, go_sem]
theorem fdouble_calls (w : World) : Calls Tryz.prog 285 #[] w fun e w' => e = .returned (.agg #[.int .i64 2, .int .i64 1]) ∧ Grow w w' := by
  go_enter Tryz.func285, Tryz.ntmps285
  go_wp2
  (try simp only [Exit.inBlock, Exit.then])
  refine bodyPost_ret (v := .agg #[.int .i64 2, .int .i64 1]) ?_ rfl ⟨rfl, (Keep.refl _ _).alloc _⟩
  simp [results, Tryz.results285, go_sem]
theorem fplace_calls (w : World) : Calls Tryz.prog 283 #[] w fun e w' => e = .returned (.agg #[.int .i64 3, .int .i64 29]) ∧ Grow w w' := by
  go_enter Tryz.func283, Tryz.ntmps283
  go_wp2
  (try simp only [Exit.inBlock, Exit.then])
  refine bodyPost_ret (v := .agg #[.int .i64 3, .int .i64 29]) ?_ rfl ⟨rfl, (Keep.refl _ _).alloc _⟩
  simp [results, Tryz.results283, go_sem]
theorem fseg_calls (w : World) : Calls Tryz.prog 284 #[] w fun e w' => e = .returned (.agg #[.int .i64 32, .int .i64 32]) ∧ Grow w w' := by
  go_enter Tryz.func284, Tryz.ntmps284
  go_wp2
  (try simp only [Exit.inBlock, Exit.then])
  refine bodyPost_ret (v := .agg #[.int .i64 32, .int .i64 32]) ?_ rfl ⟨rfl, (Keep.refl _ _).alloc _⟩
  simp [results, Tryz.results284, go_sem]

theorem pow_in (b : Nat) (hb : b ≤ 63) : (1 : Int) ≤ 2 ^ b ∧ (2 : Int) ^ b ≤ 9223372036854775808 := by
  have h1 : 1 ≤ 2 ^ b := Nat.two_pow_pos b
  have h2 : 2 ^ b ≤ 9223372036854775808 := Nat.pow_le_pow_right (n := 2) (by decide) hb
  have e : (2 : Int) ^ b = ((2 ^ b : Nat) : Int) := by simp
  rw [e]
  omega
theorem and_pow (x : Int) (a b : Nat) (hx : 0 ≤ x) (hx2 : x ≤ 18446744073709551615) (hb : b ≤ 63) : bits .and .u64 (x / 2 ^ a) (2 ^ b - 1) = x / 2 ^ a % 2 ^ b := by
  obtain ⟨n, rfl⟩ : ∃ n : Nat, x = n := ⟨x.toNat, by omega⟩
  have h1 : (n : Int) / 2 ^ a = ((n / 2 ^ a : Nat) : Int) := by simp
  have hp : 1 ≤ 2 ^ b := Nat.two_pow_pos b
  have hp2 : 2 ^ b ≤ 2 ^ 63 := Nat.pow_le_pow_right (by decide) hb
  have h2 : (2 : Int) ^ b - 1 = ((2 ^ b - 1 : Nat) : Int) := by
    rw [Int.natCast_sub hp]
    simp
  rw [h1, h2, bits_and_u64_nat _ _ (Nat.lt_of_le_of_lt (Nat.div_le_self _ _) (by omega)) (by omega), Nat.and_two_pow_sub_one_eq_mod]
  simp
set_option maxRecDepth 100000 in
theorem get_calls (a b x : Int) (w : World) (h0 : 0 ≤ a) (h1 : a ≤ 63) (h2 : 1 ≤ b) (h3 : b ≤ 63) (hx : 0 ≤ x) (hx2 : x ≤ 18446744073709551615) : Calls Tryz.prog 278 #[.agg #[.int .i64 a, .int .i64 b], .int .u64 x] w fun e w' => e = .returned (.int .u64 (x / 2 ^ a.toNat % 2 ^ b.toNat)) ∧ Grow w w' := by
  have hg := (Keep.refl NoB w).alloc (.cells #[.int .i64 a, .int .i64 b] 374)
  have hd := heap_alloc_new w (.cells #[.int .i64 a, .int .i64 b] 374)
  have c0 : (w.alloc (.cells #[.int .i64 a, .int .i64 b] 374)).drew.cell? ⟨w.heap.size, 0, none⟩ = some (.int .i64 a) := World.news_of_block hd 0 _ rfl
  have c1 : (w.alloc (.cells #[.int .i64 a, .int .i64 b] 374)).drew.cell? ⟨w.heap.size, 1, none⟩ = some (.int .i64 b) := World.news_of_block hd 1 _ rfl
  have Hg := Lib.hid hg
  clear hg hd
  obtain ⟨hp0, hp1⟩ := pow_in b.toNat (by omega)
  have hp2 : IntKind.u64.wrap (2 ^ b.toNat) = 2 ^ b.toNat := IntWalk.u64_in _ (by omega)
  have hp3 : IntKind.u64.wrap (2 ^ b.toNat - 1) = 2 ^ b.toNat - 1 := IntWalk.u64_in _ (by omega)
  have hand := and_pow x a.toNat b.toNat hx hx2 (by omega)
  have Hh := Lib.hid hand
  clear hand hp0 hp1
  go_enter Tryz.func278, Tryz.ntmps278
  go_wp2
  refine region_ord [0, 1, 2, 3, 4, 5, 6, 7, 8, 9] [9] [2, 5] [] rfl (by kernel_rfl) ?_
  iterate 2
    refine ord_pure rfl rfl rfl rfl rfl (fun _ _ _ _ h => h) ?_ ?_ ?_ ?_ ?_
    rotate_left 2
    · intro w'; go_simp; with_reducible rfl
    · simp only [Act.put, List.setIfInBounds_toArray, List.set_cons_zero, List.set_cons_succ]; rfl
  refine ord_read rfl rfl rfl rfl rfl (fun _ _ _ _ h => h) ?_ ?_ ?_ ?_ ?_
  rotate_left 2
  · intro w' hg; have q := hg.cell c0 (fun h => h); go_simp; with_reducible rfl
  · simp only [Act.put, List.setIfInBounds_toArray, List.set_cons_zero, List.set_cons_succ]; rfl
  refine ord_pure rfl rfl rfl rfl rfl (fun _ _ _ _ h => h) ?_ ?_ ?_ ?_ ?_
  rotate_left 2
  · intro w'; go_simp; with_reducible rfl
  · simp only [Act.put, List.setIfInBounds_toArray, List.set_cons_zero, List.set_cons_succ]; rfl
  refine ord_pure rfl rfl rfl rfl rfl (fun _ _ _ _ h => h) ?_ ?_ ?_ ?_ ?_
  rotate_left 2
  · intro w'; go_simp; with_reducible rfl
  · simp only [Act.put, List.setIfInBounds_toArray, List.set_cons_zero, List.set_cons_succ]; rfl
  refine ord_read rfl rfl rfl rfl rfl (fun _ _ _ _ h => h) ?_ ?_ ?_ ?_ ?_
  rotate_left 2
  · intro w' hg; have q := hg.cell c1 (fun h => h); go_simp; with_reducible rfl
  · simp only [Act.put, List.setIfInBounds_toArray, List.set_cons_zero, List.set_cons_succ]; rfl
  refine ord_pure rfl rfl rfl rfl rfl (fun _ _ _ _ h => h) ?_ ?_ ?_ ?_ ?_
  rotate_left 2
  · intro w'; go_simp; with_reducible rfl
  · simp only [Act.put, List.setIfInBounds_toArray, List.set_cons_zero, List.set_cons_succ]; rfl
  refine ord_pure rfl rfl rfl rfl rfl (fun _ _ _ _ h => h) ?_ ?_ ?_ ?_ ?_
  rotate_left 2
  · intro w'; go_simp; with_reducible rfl
  · simp only [Act.put, List.setIfInBounds_toArray, List.set_cons_zero, List.set_cons_succ]; rfl
  refine ord_pure rfl rfl rfl rfl rfl (fun _ _ _ _ h => h) ?_ ?_ ?_ ?_ ?_
  rotate_left 2
  · intro w'; go_simp; with_reducible rfl
  · simp only [Act.put, List.setIfInBounds_toArray, List.set_cons_zero, List.set_cons_succ]; rfl
  refine ord_set rfl rfl rfl rfl ?_ ?_ ?_ ?_ ?_
  rotate_left 2
  · go_simp; with_reducible rfl
  · simp only [Act.put, List.setIfInBounds_toArray, List.set_cons_zero, List.set_cons_succ]; rfl
  refine ord_nil ?_
  go_wp2
  go_ret
  rw [← Hh.out]
  exact ⟨rfl, Hg.out.drew⟩
end Go.Proofs.YtfkcpaahdlkcdaaGreat
set_option linter.unusedSimpArgs false
set_option linter.unusedVariables false
namespace Go.Proofs.YtfkcpaahdlkcdaaGreat
open Go.RowKit

theorem get_kind (x : Int) (w : World) (hx : 0 ≤ x) (hx2 : x ≤ 18446744073709551615) : Calls Tryz.prog 278 #[.agg #[.int .i64 0, .int .i64 2], .int .u64 x] w fun e w' => e = .returned (.int .u64 (x / 1 % 4)) ∧ Grow w w' :=
  get_calls 0 2 x w (by omega) (by omega) (by omega) (by omega) hx hx2
theorem get_off (x : Int) (w : World) (hx : 0 ≤ x) (hx2 : x ≤ 18446744073709551615) : Calls Tryz.prog 278 #[.agg #[.int .i64 2, .int .i64 30], .int .u64 x] w fun e w' => e = .returned (.int .u64 (x / 4 % 1073741824)) ∧ Grow w w' :=
  get_calls 2 30 x w (by omega) (by omega) (by omega) (by omega) hx hx2
theorem get_data (x : Int) (w : World) (hx : 0 ≤ x) (hx2 : x ≤ 18446744073709551615) : Calls Tryz.prog 278 #[.agg #[.int .i64 32, .int .i64 16], .int .u64 x] w fun e w' => e = .returned (.int .u64 (x / 4294967296 % 65536)) ∧ Grow w w' :=
  get_calls 32 16 x w (by omega) (by omega) (by omega) (by omega) hx hx2
theorem get_ptrs (x : Int) (w : World) (hx : 0 ≤ x) (hx2 : x ≤ 18446744073709551615) : Calls Tryz.prog 278 #[.agg #[.int .i64 48, .int .i64 16], .int .u64 x] w fun e w' => e = .returned (.int .u64 (x / 281474976710656 % 65536)) ∧ Grow w w' :=
  get_calls 48 16 x w (by omega) (by omega) (by omega) (by omega) hx hx2
theorem get_size (x : Int) (w : World) (hx : 0 ≤ x) (hx2 : x ≤ 18446744073709551615) : Calls Tryz.prog 278 #[.agg #[.int .i64 32, .int .i64 3], .int .u64 x] w fun e w' => e = .returned (.int .u64 (x / 4294967296 % 8)) ∧ Grow w w' :=
  get_calls 32 3 x w (by omega) (by omega) (by omega) (by omega) hx hx2
theorem get_count (x : Int) (w : World) (hx : 0 ≤ x) (hx2 : x ≤ 18446744073709551615) : Calls Tryz.prog 278 #[.agg #[.int .i64 35, .int .i64 29], .int .u64 x] w fun e w' => e = .returned (.int .u64 (x / 34359738368 % 536870912)) ∧ Grow w w' :=
  get_calls 35 29 x w (by omega) (by omega) (by omega) (by omega) hx hx2
theorem get_double (x : Int) (w : World) (hx : 0 ≤ x) (hx2 : x ≤ 18446744073709551615) : Calls Tryz.prog 278 #[.agg #[.int .i64 2, .int .i64 1], .int .u64 x] w fun e w' => e = .returned (.int .u64 (x / 4 % 2)) ∧ Grow w w' :=
  get_calls 2 1 x w (by omega) (by omega) (by omega) (by omega) hx hx2
theorem get_place (x : Int) (w : World) (hx : 0 ≤ x) (hx2 : x ≤ 18446744073709551615) : Calls Tryz.prog 278 #[.agg #[.int .i64 3, .int .i64 29], .int .u64 x] w fun e w' => e = .returned (.int .u64 (x / 8 % 536870912)) ∧ Grow w w' :=
  get_calls 3 29 x w (by omega) (by omega) (by omega) (by omega) hx hx2
theorem get_seg (x : Int) (w : World) (hx : 0 ≤ x) (hx2 : x ≤ 18446744073709551615) : Calls Tryz.prog 278 #[.agg #[.int .i64 32, .int .i64 32], .int .u64 x] w fun e w' => e = .returned (.int .u64 (x / 4294967296 % 4294967296)) ∧ Grow w w' :=
  get_calls 32 32 x w (by omega) (by omega) (by omega) (by omega) hx hx2
theorem cells5 {w : World} {g T : Nat} {a0 a1 a2 a3 a4 : Value} (h : w.heap[g]? = some (.cells #[a0, a1, a2, a3, a4] T (0, 0))) : w.cell? ⟨g, 0, none⟩ = some a0 ∧ w.cell? ⟨g, 1, none⟩ = some a1 ∧ w.cell? ⟨g, 2, none⟩ = some a2 ∧ w.cell? ⟨g, 3, none⟩ = some a3 ∧ w.cell? ⟨g, 4, none⟩ = some a4 ∧ ∀ o, w.frozen? ⟨g, o, none⟩ = false :=
  ⟨World.news_of_block h 0 _ rfl, World.news_of_block h 1 _ rfl, World.news_of_block h 2 _ rfl, World.news_of_block h 3 _ rfl, World.news_of_block h 4 _ rfl, fun o => frozen0 o h⟩
theorem stored5 {w0 w : World} {g T : Nat} {a0 a1 a2 a3 a4 : Value} (n0 n1 n2 n3 n4 : Value) (hg : Grow w0 w) (hge : w0.heap.size ≤ g) (h : w.heap[g]? = some (.cells #[a0, a1, a2, a3, a4] T (0, 0))) :
    (((((w.setCell ⟨g, 0, none⟩ n0).setCell ⟨g, 1, none⟩ n1).setCell ⟨g, 2, none⟩ n2).setCell ⟨g, 3, none⟩ n3).setCell ⟨g, 4, none⟩ n4).heap[g]? = some (.cells #[n0, n1, n2, n3, n4] T (0, 0)) ∧ Grow w0 (((((w.setCell ⟨g, 0, none⟩ n0).setCell ⟨g, 1, none⟩ n1).setCell ⟨g, 2, none⟩ n2).setCell ⟨g, 3, none⟩ n3).setCell ⟨g, 4, none⟩ n4) := by
  refine ⟨?_, (((((hg.setCell (p := ⟨g, 0, none⟩) (.inr hge) _).setCell (p := ⟨g, 1, none⟩) (.inr hge) _).setCell (p := ⟨g, 2, none⟩) (.inr hge) _).setCell (p := ⟨g, 3, none⟩) (.inr hge) _).setCell (p := ⟨g, 4, none⟩) (.inr hge) _)⟩
  simp only [World.setCell, Array.getElem?_modify]
  simp [h]
theorem cells7 {w : World} {g T : Nat} {a0 a1 a2 a3 a4 a5 a6 : Value} (h : w.heap[g]? = some (.cells #[a0, a1, a2, a3, a4, a5, a6] T (0, 0))) : w.cell? ⟨g, 0, none⟩ = some a0 ∧ w.cell? ⟨g, 1, none⟩ = some a1 ∧ w.cell? ⟨g, 2, none⟩ = some a2 ∧ w.cell? ⟨g, 3, none⟩ = some a3 ∧ w.cell? ⟨g, 4, none⟩ = some a4 ∧ w.cell? ⟨g, 5, none⟩ = some a5 ∧ w.cell? ⟨g, 6, none⟩ = some a6 ∧ ∀ o, w.frozen? ⟨g, o, none⟩ = false :=
  ⟨World.news_of_block h 0 _ rfl, World.news_of_block h 1 _ rfl, World.news_of_block h 2 _ rfl, World.news_of_block h 3 _ rfl, World.news_of_block h 4 _ rfl, World.news_of_block h 5 _ rfl, World.news_of_block h 6 _ rfl, fun o => frozen0 o h⟩
theorem stored7 {w0 w : World} {g T : Nat} {a0 a1 a2 a3 a4 a5 a6 : Value} (n0 n1 n2 n3 n4 n5 n6 : Value) (hg : Grow w0 w) (hge : w0.heap.size ≤ g) (h : w.heap[g]? = some (.cells #[a0, a1, a2, a3, a4, a5, a6] T (0, 0))) :
    (((((((w.setCell ⟨g, 0, none⟩ n0).setCell ⟨g, 1, none⟩ n1).setCell ⟨g, 2, none⟩ n2).setCell ⟨g, 3, none⟩ n3).setCell ⟨g, 4, none⟩ n4).setCell ⟨g, 5, none⟩ n5).setCell ⟨g, 6, none⟩ n6).heap[g]? = some (.cells #[n0, n1, n2, n3, n4, n5, n6] T (0, 0)) ∧ Grow w0 (((((((w.setCell ⟨g, 0, none⟩ n0).setCell ⟨g, 1, none⟩ n1).setCell ⟨g, 2, none⟩ n2).setCell ⟨g, 3, none⟩ n3).setCell ⟨g, 4, none⟩ n4).setCell ⟨g, 5, none⟩ n5).setCell ⟨g, 6, none⟩ n6) := by
  refine ⟨?_, (((((((hg.setCell (p := ⟨g, 0, none⟩) (.inr hge) _).setCell (p := ⟨g, 1, none⟩) (.inr hge) _).setCell (p := ⟨g, 2, none⟩) (.inr hge) _).setCell (p := ⟨g, 3, none⟩) (.inr hge) _).setCell (p := ⟨g, 4, none⟩) (.inr hge) _).setCell (p := ⟨g, 5, none⟩) (.inr hge) _).setCell (p := ⟨g, 6, none⟩) (.inr hge) _)⟩
  simp only [World.setCell, Array.getElem?_modify]
  simp [h]
theorem cells8 {w : World} {g T : Nat} {a0 a1 a2 a3 a4 a5 a6 a7 : Value} (h : w.heap[g]? = some (.cells #[a0, a1, a2, a3, a4, a5, a6, a7] T (0, 0))) : w.cell? ⟨g, 0, none⟩ = some a0 ∧ w.cell? ⟨g, 1, none⟩ = some a1 ∧ w.cell? ⟨g, 2, none⟩ = some a2 ∧ w.cell? ⟨g, 3, none⟩ = some a3 ∧ w.cell? ⟨g, 4, none⟩ = some a4 ∧ w.cell? ⟨g, 5, none⟩ = some a5 ∧ w.cell? ⟨g, 6, none⟩ = some a6 ∧ w.cell? ⟨g, 7, none⟩ = some a7 ∧ ∀ o, w.frozen? ⟨g, o, none⟩ = false :=
  ⟨World.news_of_block h 0 _ rfl, World.news_of_block h 1 _ rfl, World.news_of_block h 2 _ rfl, World.news_of_block h 3 _ rfl, World.news_of_block h 4 _ rfl, World.news_of_block h 5 _ rfl, World.news_of_block h 6 _ rfl, World.news_of_block h 7 _ rfl, fun o => frozen0 o h⟩
theorem stored8 {w0 w : World} {g T : Nat} {a0 a1 a2 a3 a4 a5 a6 a7 : Value} (n0 n1 n2 n3 n4 n5 n6 n7 : Value) (hg : Grow w0 w) (hge : w0.heap.size ≤ g) (h : w.heap[g]? = some (.cells #[a0, a1, a2, a3, a4, a5, a6, a7] T (0, 0))) :
    ((((((((w.setCell ⟨g, 0, none⟩ n0).setCell ⟨g, 1, none⟩ n1).setCell ⟨g, 2, none⟩ n2).setCell ⟨g, 3, none⟩ n3).setCell ⟨g, 4, none⟩ n4).setCell ⟨g, 5, none⟩ n5).setCell ⟨g, 6, none⟩ n6).setCell ⟨g, 7, none⟩ n7).heap[g]? = some (.cells #[n0, n1, n2, n3, n4, n5, n6, n7] T (0, 0)) ∧ Grow w0 ((((((((w.setCell ⟨g, 0, none⟩ n0).setCell ⟨g, 1, none⟩ n1).setCell ⟨g, 2, none⟩ n2).setCell ⟨g, 3, none⟩ n3).setCell ⟨g, 4, none⟩ n4).setCell ⟨g, 5, none⟩ n5).setCell ⟨g, 6, none⟩ n6).setCell ⟨g, 7, none⟩ n7) := by
  refine ⟨?_, ((((((((hg.setCell (p := ⟨g, 0, none⟩) (.inr hge) _).setCell (p := ⟨g, 1, none⟩) (.inr hge) _).setCell (p := ⟨g, 2, none⟩) (.inr hge) _).setCell (p := ⟨g, 3, none⟩) (.inr hge) _).setCell (p := ⟨g, 4, none⟩) (.inr hge) _).setCell (p := ⟨g, 5, none⟩) (.inr hge) _).setCell (p := ⟨g, 6, none⟩) (.inr hge) _).setCell (p := ⟨g, 7, none⟩) (.inr hge) _)⟩
  simp only [World.setCell, Array.getElem?_modify]
  simp [h]
theorem Grow.heap {w w' : World} {g : Nat} {o : Obj} (hg : Grow w w') (h : w.heap[g]? = some o) : w'.heap[g]? = some o :=
  (hg.block g (Array.getElem?_eq_some_iff.1 h).1 (fun h => h)).trans h

def sg30 (n : Int) : Int := if n < 536870912 then n else n - 1073741824
theorem sg30_eq {n : Int} (h0 : 0 ≤ n) (h1 : n < 1073741824) : sg30 n = wrap64 (n * 17179869184) / 17179869184 := by
  unfold sg30 wrap64
  split <;> omega
theorem signed_calls (n : Int) (w : World) (h0 : 0 ≤ n) (h1 : n < 1073741824) : Calls Tryz.prog 286 #[.int .u64 n, .int .i64 30] w fun e w' => e = .returned (.int .i64 (sg30 n)) ∧ w = w' := by
  go_enter Tryz.func286, Tryz.ntmps286
  go_wp2
  go_ret
  rw [sg30_eq h0 h1]
  exact ⟨rfl, rfl⟩
end Go.Proofs.YtfkcpaahdlkcdaaGreat

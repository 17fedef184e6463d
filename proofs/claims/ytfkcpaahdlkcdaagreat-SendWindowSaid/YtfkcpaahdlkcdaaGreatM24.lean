import Derived.Test.YtfkcpaahdlkcdaaGreatM23
/-! Joined: SqT, SqU, SqV, SqW. -/
set_option linter.unusedSimpArgs false
set_option linter.unusedVariables false
namespace Go.Proofs.YtfkcpaahdlkcdaaGreat
open Go.RowKit

theorem lay_same {t : Tr} {vw vb vk : Value} {a : List (List Int)} {size : Int} {full : Bool} {A : Option Addr} {c s i : Nat} {w : World} {F : Nat → Prop} (h : TrR w t vw vb vk) (hF : Foot (RowsR .u64 a (.slice A a.length c)) w F) (hb : BigA a) (hn : NumA a) (hl : full = false → LimA a) (hk : t.kind = 0 ∨ full = true) :
    Calls Tryz.prog 127 #[.agg #[.slice A a.length c, .int .i64 size, .bool full], .agg #[.int .i64 t.kind, .int .i64 t.size, vw, vb, vk], .int .i64 s, .int .i64 i] w (LayPost a size full F w) := by
  obtain ⟨A1, c1, A2, c2, A3, c3, rfl, rfl, rfl⟩ := h.parts
  refine (lay_skip t.kind t.size A1 A2 A3 _ _ _ c1 c2 c3 a.length c A size full s i w hk).mono ?_
  rintro e w' ⟨rfl, hg⟩
  exact ⟨a, full, A, c, F, rfl, hg, hF.grow hg, fun k hk => .inl hk, ExtA.refl a, hb, hn, hl⟩
theorem lay_all : ∀ l, LayAt l := by
  intro l
  induction l with
  | zero =>
    intro t vw vb vk a size full A c s i w F h hN hr hF hb hn hl hz0 hz1 hs hi
    refine lay_same h hF hb hn hl (.inl ?_)
    simp only [rightB, Bool.and_eq_true, beq_iff_eq] at hr
    exact hr.2
  | succ l ih =>
    intro t vw vb vk a size full A c s i w F h hN hr hF hb hn hl hz0 hz1 hs hi
    by_cases hfl : full = true
    · exact lay_same h hF hb hn hl (.inr hfl)
    obtain rfl : full = false := by simpa using hfl
    by_cases hk : t.kind = 0
    · exact lay_same h hF hb hn hl (.inl hk)
    have hlim := hl rfl
    simp only [rightB, Bool.and_eq_true] at hr
    obtain ⟨ho, hall⟩ := hr
    have hi2 : i < a[s].length := by simpa [hs] using hi
    obtain ⟨A1, c1, A2, c2, A3, c3, rfl, rfl, rfl⟩ := h.parts
    cases h with
    | @mk k z ws bs _ _ _ rows hW hB hR hrr =>
      have hkl : (Tr.mk k z ws bs (rows.map (·.1))).kids.length = rows.length := by simp [Tr.kids]
      rw [hkl] at hR ⊢
      have hw := own_ways ho hk
      rw [hkl] at hw
      simp only [Tr.kind, Tr.size, Tr.ws, Tr.bs] at hk hw hW hB hR hkl ⊢
      have hrn : ∀ r, r ∈ rows → TrN r.1 := fun r hr => hN.r _ (List.mem_map.2 ⟨r, hr, rfl⟩)
      have hrb : ∀ r, r ∈ rows → rightB l r.1 = true := fun r hr => List.all_eq_true.1 hall _ (List.mem_map.2 ⟨r, hr, rfl⟩)
      have hws : okW ws := hN.w
      have hbs : ∀ x ∈ bs, 0 ≤ x ∧ x ≤ 255 := hN.b
      have hcl : needN k ws.length bs.length rows.length = ws.length + (bs.length + 7) / 8 + rows.length := by
        unfold needN
        rcases hw with ⟨e1, _, e2, _⟩ | ⟨e1, _⟩ | ⟨e1, _⟩ | ⟨e1, _⟩
        · rw [if_pos e1, e2]; omega
        · rw [if_neg (by omega), if_pos e1]; omega
        · rw [if_neg (by omega), if_pos e1]; omega
        · rw [if_neg (by omega), if_pos e1]; omega
      have b1 : ws.length ≤ 10000 := by omega
      have b2 : bs.length ≤ 10000 := by omega
      have b3 : rows.length ≤ 10000 := by omega
      have hnb : ws.length + (bs.length + 7) / 8 + rows.length ≤ 5000 := by omega
      by_cases hz : needN k ws.length bs.length rows.length = 0
      · by_cases hk1 : k = 1
        · exact lay_zero_one k z A1 A2 A3 _ _ _ c1 c2 c3 b1 b2 b3 hk a size A c s i w F hF hlim hn hz0 hz1 hs hi2 hz hk1
        · exact lay_zero_two k z A1 A2 A3 _ _ _ c1 c2 c3 b1 b2 b3 hk a size A c s i w F hF hlim hn hz0 hz1 hs hi2 hz hk1
      · by_cases hsl : s + 1 = a.length
        · by_cases hfit : (a[s].length : Int) + needN k ws.length bs.length rows.length ≤ size
          · exact lay_near l ih k z ws bs rows A1 A2 A3 c1 c2 c3 b1 b2 b3 hk a size A c s i w F hF hlim hn hz0 hz1 hs hi2 hcl hz hnb hws hbs hW hB hR hrr hrn hrb hsl hfit
          · exact lay_far1 l ih k z ws bs rows A1 A2 A3 c1 c2 c3 b1 b2 b3 hk a size A c s i w F hF hlim hn hz0 hz1 hs hi2 hcl hz hnb hws hbs hW hB hR hrr hrn hrb hsl (by omega)
        · by_cases hfit : (a[a.length - 1].length : Int) + needN k ws.length bs.length rows.length + 1 ≤ size
          · exact lay_far3 l ih k z ws bs rows A1 A2 A3 c1 c2 c3 b1 b2 b3 hk a size A c s i w F hF hlim hn hz0 hz1 hs hi2 hcl hz hnb hws hbs hW hB hR hrr hrn hrb hsl hfit
          · exact lay_far2 l ih k z ws bs rows A1 A2 A3 c1 c2 c3 b1 b2 b3 hk a size A c s i w F hF hlim hn hz0 hz1 hs hi2 hcl hz hnb hws hbs hW hB hR hrr hrn hrb hsl (by omega)
theorem NumA.one : NumA [[0]] := fun s hs x hx => by
  rw [List.mem_singleton.1 hs] at hx
  rw [List.mem_singleton.1 hx]
  omega
/-- What Build gives: an arena, or none and an error. -/
def BuildPost (w : World) (e : Ending) (w' : World) : Prop :=
  Grow w w' ∧ ((∃ r : Int, r ≠ 0 ∧ e = .returned (.tuple #[.slice none 0 0, .int .i64 r])) ∨ (∃ a A c, e = .returned (.tuple #[.slice A a.length c, .int .i64 0]) ∧ LimA a ∧ NumA a ∧ 1 ≤ a.length ∧ RowsR .u64 a (.slice A a.length c) w'))
set_option maxRecDepth 100000 in
set_option maxHeartbeats 4000000 in
theorem rbuild_calls (t : Tr) (vw vb vk : Value) (size : Int) (w : World) (h : TrR w t vw vb vk) (hT : TrB t) (hN : TrN t) (hz0 : 1 ≤ size) (hz1 : size ≤ 4096) :
    Calls Tryz.prog 57 #[.agg #[.int .i64 t.kind, .int .i64 t.size, vw, vb, vk], .int .i64 size] w (BuildPost w) := by
  have hga := (Keep.refl NoB w).alloc (.cells #[.int .i64 t.kind, .int .i64 t.size, vw, vb, vk] 114)
  have HG := Lib.hid hga
  have HH := Lib.hid h
  have HC := Lib.hid (heap_alloc_new w (.cells #[.int .i64 t.kind, .int .i64 t.size, vw, vb, vk] 114))
  have HR := Lib.hid (rright_calls t vw vb vk _ (h.grow hga) hT)
  have HNN := Lib.hid hN
  obtain ⟨A1, c1, A2, c2, A3, c3, rfl, rfl, rfl⟩ := h.parts
  clear h hT hN hga
  have hb0 : ¬ (size < 1) := by omega
  have hb1 : decide (size < 1) = false := by rw [decide_eq_false_iff_not]; omega
  have hb2 : decide (4096 < size) = false := by rw [decide_eq_false_iff_not]; omega
  go_enter Tryz.func57, Tryz.ntmps57
  go_wp2_with fail
  refine HR.out.mono ?_
  rintro e w1 ⟨rfl, hg⟩
  replace HG := Lib.hid (HG.out.grow hg)
  replace HC := Lib.hid (Grow.heap hg HC.out)
  obtain ⟨n0, n1, n2, n3, n4, nf⟩ := cells5 HC.out
  have hlt9 := (Array.getElem?_eq_some_iff.1 HC.out).1
  have hne1 : w.heap.size ≠ w1.heap.size := by omega
  have hne2 : w.heap.size ≠ w1.heap.size + 1 := by omega
  have hne3 : w1.heap.size ≠ w.heap.size := by omega
  have hne4 : w1.heap.size + 1 ≠ w.heap.size := by omega
  clear hg HR
  rcases hrt : rightB 32 t with _ | _
  · clear hrt
    go_wp2
    go_ret2
    exact ⟨HG.out, .inl ⟨1, by decide, rfl⟩⟩
  · have HRT := Lib.hid hrt
    clear hrt
    have hh := heap_two w1 (.cells #[.int .u64 0] 22) (.cells #[.slice (some ⟨w1.heap.size, 0, none⟩) 1 1] 111)
    have hF : Foot (RowsR .u64 [[0]] (.slice (some ⟨w1.heap.size + 1, 0, none⟩) ([[0]] : List (List Int)).length 1)) ((w1.alloc (.cells #[.int .u64 0] 22)).alloc (.cells #[.slice (some ⟨w1.heap.size, 0, none⟩) 1 1] 111)) (fun k => k = w1.heap.size ∨ k = w1.heap.size + 1) := by
      refine ⟨fun k hk => by simp; omega, fun W' hW => ⟨_, _, rfl, fun i hi => ?_⟩⟩
      obtain rfl : i = 0 := by simpa using hi
      have e1 := (hW w1.heap.size (.inl rfl)).trans hh.1
      have e2 := (hW (w1.heap.size + 1) (.inr rfl)).trans hh.2.1
      exact ⟨_, _, _, rfl, cell0 e2, SliceR.of_block (cs := #[.int .u64 0]) e1 (Nat.le_refl _) rfl⟩
    have hly := lay_all 32 t _ _ _ [[0]] size false _ 1 0 0 _ _ ((HH.out.grow HG.out).grow hh.2.2) HNN.out HRT.out hF ⟨by decide, by decide⟩ NumA.one (fun _ => ⟨by decide, by decide⟩) (by omega) hz1 (by decide) (by decide)
    rw [show ((0 : Nat) : Int) = 0 from rfl] at hly
    have HL := Lib.hid hly
    clear hly
    have HG2 := Lib.hid (HG.out.grow hh.2.2)
    clear hh hF
    go_wp2_with fail
    refine HL.out.mono ?_
    rintro e w2 ⟨a', fl, A', c', F', rfl, hg2, har, _, hext, _, hnum, hlim⟩
    have HG3 := Lib.hid (HG2.out.grow hg2)
    cases fl with
    | true =>
      clear hg2 har hext hnum hlim
      go_wp2
      go_ret2
      exact ⟨HG3.out.alloc _, .inl ⟨24, by decide, rfl⟩⟩
    | false =>
      have HFIN : Hid (LimA a' ∧ NumA a' ∧ 1 ≤ a'.length ∧ RowsR .u64 a' (.slice A' a'.length c') w2) := Lib.hid ⟨hlim rfl, hnum, hext.1, har.now⟩
      clear hg2 har hext hnum hlim
      go_wp2
      go_ret2
      exact ⟨HG3.out.alloc _, .inr ⟨a', A', c', rfl, HFIN.out.1, HFIN.out.2.1, HFIN.out.2.2.1, HFIN.out.2.2.2.grow ((Keep.refl NoB w2).alloc _)⟩⟩
end Go.Proofs.YtfkcpaahdlkcdaaGreat
set_option linter.unusedSimpArgs false
set_option linter.unusedVariables false
namespace Go.Proofs.YtfkcpaahdlkcdaaGreat
open Go.RowKit

def okU (l : List Int) : Prop := ∀ x ∈ l, 0 ≤ x ∧ x ≤ 255
/-- What is left behind the first. -/
def tlV (A : Option Addr) (n c : Nat) : Value := if c = 1 then .slice A (n - 1) (c - 1) else .slice (A.map fun ad => ad.add 1) (n - 1) (c - 1)
theorem SliceR.tail {A : Option Addr} {c : Nat} {x : Int} {l : List Int} {w : World} (h : SliceR 1 (.slice A (x :: l).length c) (x :: l).length (u8s (x :: l)) w) : ∃ A', tlV A (x :: l).length c = .slice A' l.length (c - 1) ∧ SliceR 1 (.slice A' l.length (c - 1)) l.length (u8s l) w := by
  obtain ⟨A9, c9, e9, hc, hl, hA, hq⟩ := h
  injection e9 with e1 _ e3
  subst e1; subst e3
  unfold tlV
  simp only [List.length_cons, Nat.add_sub_cancel] at hc ⊢
  by_cases h1 : c = 1
  · rw [if_pos h1]
    have h0 : l = [] := List.eq_nil_of_length_eq_zero (by omega)
    subst h0
    exact ⟨A, rfl, A, c - 1, rfl, by simp, by simp [u8s], fun e => by have := hA e; omega, fun j u hu => by simp [u8s] at hu⟩
  · rw [if_neg h1]
    refine ⟨_, rfl, _, c - 1, rfl, by omega, by simp [u8s], fun e => ?_, fun j u hu => ?_⟩
    · cases A with
      | none => have := hA rfl; omega
      | some ad => simp at e
    · have hu2 : (u8s (x :: l))[1 + j]? = some u := by
        rw [← hu, Nat.add_comm]
        simp [u8s]
      obtain ⟨ad, rfl, hcell⟩ := hq _ _ hu2
      exact ⟨_, rfl, by rw [Addr.add_add]; exact hcell⟩
/-- What Tree gives: a tree, and the choices that are left. -/
def TreePost (n : Nat) (v w : World) (e : Ending) (w' : World) : Prop :=
  ∃ (t : Tr) (A1 A2 A3 : Option Addr) (c1 c2 c3 : Nat) (l' : List Int) (A' : Option Addr) (c' : Nat), e = .returned (.tuple #[.agg #[.int .i64 t.kind, .int .i64 t.size, .slice A1 t.ws.length c1, .slice A2 t.bs.length c2, .slice A3 t.kids.length c3], .slice A' l'.length c']) ∧ Grow w w' ∧
    Foot (fun W => TrR W t (.slice A1 t.ws.length c1) (.slice A2 t.bs.length c2) (.slice A3 t.kids.length c3)) w' (fun k => w.heap.size ≤ k ∧ k < w'.heap.size) ∧ TrN t ∧ TrB t ∧ SliceR 1 (.slice A' l'.length c') l'.length (u8s l') v ∧ l'.length ≤ n ∧ okU l'
theorem TrN.nil (k s : Int) : TrN (.mk k s [] [] []) := .mk (fun _ h => by cases h) (fun _ h => by cases h) (fun _ h => by cases h)
theorem TrB.nil (k s : Int) : TrB (.mk k s [] [] []) := .mk (by simp) (by simp) (by simp) (fun _ h => by cases h)
set_option maxRecDepth 100000 in
set_option maxHeartbeats 4000000 in
theorem tree_end (l : List Int) (A : Option Addr) (c : Nat) (deep : Int) (v w : World) (h : SliceR 1 (.slice A l.length c) l.length (u8s l) v) (hl : l.length ≤ 1000000) (hu : okU l) (hd : l = [] ∨ deep = 0) :
    Calls Tryz.prog 56 #[.slice A l.length c, .int .i64 deep] w (TreePost l.length v w) := by
  have hg := (Keep.refl NoB w).alloc (.cells #[.int .i64 0, .int .i64 0, .slice none 0 0, .slice none 0 0, .slice none 0 0] 114)
  have HFIN : Hid (TreePost l.length v w (.returned (.tuple #[.agg #[.int .i64 0, .int .i64 0, .slice none 0 0, .slice none 0 0, .slice none 0 0], .slice A l.length c])) (w.alloc (.cells #[.int .i64 0, .int .i64 0, .slice none 0 0, .slice none 0 0, .slice none 0 0] 114))) :=
    Lib.hid ⟨tr0, none, none, none, 0, 0, 0, l, A, c, rfl, hg, ⟨fun k h => h.2, fun W _ => TrR.nil W 0 0⟩, TrN.nil 0 0, TrB.nil 0 0, h, Nat.le_refl _, hu⟩
  rcases hq : (((l.length : Nat) : Int) == 0) with _ | _
  · have hd0 : deep = 0 := by
      rcases hd with e | e
      · rw [e] at hq; simp at hq
      · exact e
    subst hd0
    clear h hd hg
    go_enter Tryz.func56, Tryz.ntmps56
    go_wp2
    refine bodyPost_ret (v := .tuple #[.agg #[.int .i64 0, .int .i64 0, .slice none 0 0, .slice none 0 0, .slice none 0 0], .slice A l.length c]) ?_ rfl HFIN.out
    rw [results_cell_tmp rfl]; go_simp
  · clear h hd hg
    go_enter Tryz.func56, Tryz.ntmps56
    go_wp2
    refine bodyPost_ret (v := .tuple #[.agg #[.int .i64 0, .int .i64 0, .slice none 0 0, .slice none 0 0, .slice none 0 0], .slice A l.length c]) ?_ rfl HFIN.out
    rw [results_cell_tmp rfl]; go_simp
end Go.Proofs.YtfkcpaahdlkcdaaGreat
set_option linter.unusedSimpArgs false
set_option linter.unusedVariables false
namespace Go.Proofs.YtfkcpaahdlkcdaaGreat
open Go.RowKit

theorem SliceR.tail2 {ad : Addr} {n c : Nat} {x : Int} {l : List Int} {w : World} (h : SliceR 1 (.slice (some ad) n c) n (u8s (x :: l)) w) (hn : n = l.length + 1) (hc : ¬ (c = 1)) : SliceR 1 (.slice (some ⟨ad.block, ad.off + 1, none⟩) (n - 1) (c - 1)) (n - 1) (u8s l) w := by
  subst hn
  obtain ⟨A', ht, hs⟩ := SliceR.tail (A := some ad) (c := c) (x := x) (l := l) h
  unfold tlV at ht
  rw [if_neg hc] at ht
  injection ht with h1 _ _
  subst h1
  exact hs
set_option maxRecDepth 100000 in
set_option maxHeartbeats 4000000 in
theorem tree0_ne (x : Int) (l : List Int) (ad : Addr) (n c : Nat) (deep : Nat) (v w : World) (hv : Grow v w) (h : SliceR 1 (.slice (some ad) n c) n (u8s (x :: l)) v) (hn : n = l.length + 1) (hl : l.length ≤ 1000000) (hx : 0 ≤ x ∧ x ≤ 255) (hu : okU l) (hd : deep ≠ 0) (hc1 : ¬ (c = 1)) (hm : x % 8 = 0) :
    Calls Tryz.prog 56 #[(.slice (some ad) n c), .int .i64 deep] w (TreePost l.length v w) := by
  have HT := Lib.hid (h.tail2 hn hc1)
  have hcell0 : v.cell? ad = some (.int .u8 x) := by
    obtain ⟨A9, c9, e9, _, _, _, hq⟩ := h
    injection e9 with e9 _ _
    obtain ⟨a9, e8, hc⟩ := hq 0 (.int .u8 x) rfl
    rw [← e9] at e8
    injection e8 with e8
    subst e8
    rw [Addr.add_zero'] at hc
    exact hc
  have hcell := hv.cell hcell0 (fun h => h)
  clear hcell0 hv
  have hc : n ≤ c := by
    obtain ⟨_, _, e, h2, _⟩ := h
    injection e with _ e2 e3
    omega
  have hq : (((n : Nat) : Int) == 0) = false := beq_eq_false_iff_ne.2 (by omega)
  have hn1 : (1 : Int) ≤ n := by omega
  have hn0 : (0 : Int) < n := by omega
  have HN2 := Lib.hid hn
  have HLN : Hid (n - 1 = l.length) := Lib.hid (by omega)
  have hdq : (((deep : Nat) : Int) == 0) = false := beq_eq_false_iff_ne.2 (by omega)
  have hmb : (x % 8 == 0) = true := beq_iff_eq.2 hm
  have hga := (Keep.refl NoB w).alloc (.cells #[.int .i64 0, .int .i64 0, .slice none 0 0, .slice none 0 0, .slice none 0 0] 114)
  have hgb := hga.alloc (.cells #[.int .i64 0, .int .i64 0, .slice none 0 0, .slice none 0 0, .slice none 0 0] 114)
  have hcell2 := hga.cell hcell (fun h => h)
  have HFIN : Hid (TreePost l.length v w (.returned (.tuple #[.agg #[.int .i64 0, .int .i64 0, .slice none 0 0, .slice none 0 0, .slice none 0 0], .slice (some ⟨ad.block, ad.off + 1, none⟩) (n - 1) (c - 1)])) ((w.alloc (.cells #[.int .i64 0, .int .i64 0, .slice none 0 0, .slice none 0 0, .slice none 0 0] 114)).alloc (.cells #[.int .i64 0, .int .i64 0, .slice none 0 0, .slice none 0 0, .slice none 0 0] 114))) := by
    have hs := HT.out
    rw [HLN.out] at hs ⊢
    exact Lib.hid ⟨tr0, none, none, none, 0, 0, 0, l, _, _, rfl, hgb, ⟨fun k h => h.2, fun W _ => TrR.nil W 0 0⟩, TrN.nil 0 0, TrB.nil 0 0, hs, Nat.le_refl _, hu⟩
  obtain ⟨hx1, hx2⟩ := hx
  clear h hm hd hn hcell hga hgb
  go_enter Tryz.func56, Tryz.ntmps56
  go_wp2
  refine bodyPost_ret (v := .tuple #[.agg #[.int .i64 0, .int .i64 0, .slice none 0 0, .slice none 0 0, .slice none 0 0], .slice (some ⟨ad.block, ad.off + 1, none⟩) (n - 1) (c - 1)]) ?_ rfl HFIN.out
  rw [results_cell_tmp rfl]; go_simp
set_option maxRecDepth 100000 in
set_option maxHeartbeats 4000000 in
theorem tree0_eq (x : Int) (ad : Addr) (deep : Nat) (v w : World) (hv : Grow v w) (h : SliceR 1 (.slice (some ad) 1 1) 1 (u8s [x]) v) (hx : 0 ≤ x ∧ x ≤ 255) (hd : deep ≠ 0) (hm : x % 8 = 0) :
    Calls Tryz.prog 56 #[(.slice (some ad) 1 1), .int .i64 deep] w (TreePost ([] : List Int).length v w) := by
  have HT : Hid (SliceR 1 (.slice (some ad) 0 0) 0 (u8s []) v) := Lib.hid ⟨some ad, 0, rfl, Nat.le_refl _, by simp [u8s], fun _ => rfl, fun j u hu => by simp [u8s] at hu⟩
  have hcell0 : v.cell? ad = some (.int .u8 x) := by
    obtain ⟨A9, c9, e9, _, _, _, hq⟩ := h
    injection e9 with e9 _ _
    obtain ⟨a9, e8, hc⟩ := hq 0 (.int .u8 x) rfl
    rw [← e9] at e8
    injection e8 with e8
    subst e8
    rw [Addr.add_zero'] at hc
    exact hc
  have hcell := hv.cell hcell0 (fun h => h)
  clear hcell0 hv
  have hu : okU [] := fun y hy => by cases hy
  have hn : 0 = ([] : List Int).length := rfl
  have hdq : (((deep : Nat) : Int) == 0) = false := beq_eq_false_iff_ne.2 (by omega)
  have hmb : (x % 8 == 0) = true := beq_iff_eq.2 hm
  have hga := (Keep.refl NoB w).alloc (.cells #[.int .i64 0, .int .i64 0, .slice none 0 0, .slice none 0 0, .slice none 0 0] 114)
  have hgb := hga.alloc (.cells #[.int .i64 0, .int .i64 0, .slice none 0 0, .slice none 0 0, .slice none 0 0] 114)
  have hcell2 := hga.cell hcell (fun h => h)
  have HFIN : Hid (TreePost ([] : List Int).length v w (.returned (.tuple #[.agg #[.int .i64 0, .int .i64 0, .slice none 0 0, .slice none 0 0, .slice none 0 0], .slice (some ad) 0 0])) ((w.alloc (.cells #[.int .i64 0, .int .i64 0, .slice none 0 0, .slice none 0 0, .slice none 0 0] 114)).alloc (.cells #[.int .i64 0, .int .i64 0, .slice none 0 0, .slice none 0 0, .slice none 0 0] 114))) := by
    have hs := HT.out
    skip
    exact Lib.hid ⟨tr0, none, none, none, 0, 0, 0, ([] : List Int), _, _, rfl, hgb, ⟨fun k h => h.2, fun W _ => TrR.nil W 0 0⟩, TrN.nil 0 0, TrB.nil 0 0, hs, Nat.le_refl _, hu⟩
  obtain ⟨hx1, hx2⟩ := hx
  clear h hm hd hn hcell hga hgb
  go_enter Tryz.func56, Tryz.ntmps56
  go_wp2
  refine bodyPost_ret (v := .tuple #[.agg #[.int .i64 0, .int .i64 0, .slice none 0 0, .slice none 0 0, .slice none 0 0], .slice (some ad) 0 0]) ?_ rfl HFIN.out
  rw [results_cell_tmp rfl]; go_simp
end Go.Proofs.YtfkcpaahdlkcdaaGreat
set_option linter.unusedSimpArgs false
set_option linter.unusedVariables false
namespace Go.Proofs.YtfkcpaahdlkcdaaGreat
open Go.RowKit

theorem two_alloc (w : World) (a b : Obj) : ((w.alloc a).alloc b).heap[w.heap.size]? = some a ∧ ((w.alloc a).alloc b).heap[w.heap.size + 1]? = some b ∧ ((w.alloc a).alloc b).heap.size = w.heap.size + 2 := by
  have e1 : (w.alloc a).heap.size = w.heap.size + 1 := by simp
  have h1 := heap_alloc_new (w.alloc a) b
  rw [e1] at h1
  exact ⟨Grow.heap ((Keep.refl NoB (w.alloc a)).alloc b) (heap_alloc_new w a), h1, by simp⟩
def bytesT (x : Int) (n : Nat) : List Int := (List.range n).map (fun (i : Nat) => (x + i) % 256)
theorem bytesT_length (x : Int) (n : Nat) : (bytesT x n).length = n := by simp [bytesT]
theorem bytesT_succ (x : Int) (n : Nat) : u8s (bytesT x (n + 1)) = u8s (bytesT x n) ++ [.int .u8 ((x + n) % 256)] := by
  simp [bytesT, u8s, List.range_succ]
theorem bytesT_num (x : Int) (n : Nat) : ∀ y ∈ bytesT x n, 0 ≤ y ∧ y ≤ 255 := by
  intro y hy
  simp only [bytesT, List.mem_map] at hy
  obtain ⟨i, _, rfl⟩ := hy
  omega
set_option maxRecDepth 100000 in
set_option maxHeartbeats 4000000 in
theorem tree12_ne (x : Int) (l : List Int) (ad : Addr) (n c : Nat) (deep : Nat) (v w : World) (hv : Grow v w) (h : SliceR 1 (.slice (some ad) n c) n (u8s (x :: l)) v) (hn : n = l.length + 1) (hl : l.length ≤ 1000000) (hx : 0 ≤ x ∧ x ≤ 255) (hu : okU l) (hd : deep ≠ 0) (hc1 : ¬ (c = 1)) (m : Nat) (hmm : (m : Int) = 3 * (x / 8 % 5) + x % 2) (hm : x % 8 = 1 ∨ x % 8 = 2) :
    Calls Tryz.prog 56 #[(.slice (some ad) n c), .int .i64 deep] w (TreePost l.length v w) := by
  have HT := Lib.hid (h.tail2 hn hc1)
  have hcell0 : v.cell? ad = some (.int .u8 x) := by
    obtain ⟨A9, c9, e9, _, _, _, hq⟩ := h
    injection e9 with e9 _ _
    obtain ⟨a9, e8, hc⟩ := hq 0 (.int .u8 x) rfl
    rw [← e9] at e8
    injection e8 with e8
    subst e8
    rw [Addr.add_zero'] at hc
    exact hc
  have hcell := hv.cell hcell0 (fun h => h)
  clear hcell0 hv
  have hc : n ≤ c := by
    obtain ⟨_, _, e, h2, _⟩ := h
    injection e with _ e2 e3
    omega
  have hq : (((n : Nat) : Int) == 0) = false := beq_eq_false_iff_ne.2 (by omega)
  have hn1 : (1 : Int) ≤ n := by omega
  have hn0 : (0 : Int) < n := by omega
  have HN2 := Lib.hid hn
  have HLN : Hid (n - 1 = l.length) := Lib.hid (by omega)
  have hdq : (((deep : Nat) : Int) == 0) = false := beq_eq_false_iff_ne.2 (by omega)
  have hmb : (x % 8 == 0) = false := beq_eq_false_iff_ne.2 (by omega)
  have HMM := Lib.hid hmm
  have hm9 : m ≤ 20 := by omega
  have hga := (Keep.refl NoB w).alloc (.cells #[.int .i64 0, .int .i64 0, .slice none 0 0, .slice none 0 0, .slice none 0 0] 114)
  have hgb := hga.alloc (.cells #[.int .i64 0, .int .i64 0, .slice none 0 0, .slice none 0 0, .slice none 0 0] 114)
  have hcell2 := hga.cell hcell (fun h => h)
  have HX : Hid (0 ≤ x ∧ x ≤ 255) := Lib.hid hx
  obtain ⟨hx1, hx2⟩ := hx
  rcases hm with hm | hm
  · have hm1 : (x % 8 == 1) = true := beq_iff_eq.2 hm
    clear h hm hmm hd hn hcell hga hgb
    go_enter Tryz.func56, Tryz.ntmps56
    go_wp2_with fail
    have hy1 : 0 ≤ x / 8 % 5 := by omega
    have hy2 : x / 8 % 5 ≤ 4 := by omega
    have hz1 : 0 ≤ x % 2 := by omega
    have hz2 : x % 2 ≤ 1 := by omega
    go_loopw [9] (fun v wr => ∃ k : Nat, k ≤ m ∧ v = .int .i64 k ∧ ∃ A4 c4, wr.heap[w.heap.size]? = some (.cells #[.int .i64 0, .int .i64 0, .slice none 0 0, .slice none 0 0, .slice none 0 0] 114 (0, 0)) ∧ wr.heap[w.heap.size + 1]? = some (.cells #[.int .i64 2, .int .i64 2, .slice none 0 0, .slice A4 k c4, .slice none 0 0] 114 (0, 0)) ∧ Hid (Grow w wr ∧ w.heap.size + 2 ≤ wr.heap.size ∧ wr.ownsRow (w.heap.size + 2) 5 1 (.slice A4 k c4) k (u8s (bytesT x k)))) (fun v _ => m - (intOf v).toNat)
    case atStart => exact ⟨0, by omega, rfl, none, 0, (two_alloc w _ _).1, (two_alloc w _ _).2.1, ((Keep.refl NoB w).alloc _).alloc _, Nat.le_of_eq (two_alloc w _ _).2.2.symm, World.ownsRow_nil _ (w.heap.size + 2) 5 1⟩
    case round =>
      obtain ⟨k, hk, rfl, A4, c4, hb4, hb7, HS⟩ := hrel
      have hwa : IntKind.i64.wrap (3 * (x / 8 % 5)) = 3 * (x / 8 % 5) := IntWalk.i64_in _ (by omega)
      have hwb : IntKind.i64.wrap (3 * (x / 8 % 5) + x % 2) = 3 * (x / 8 % 5) + x % 2 := IntWalk.i64_in _ (by omega)
      have hd0 : wr.cell? ⟨w.heap.size + 1, 0, none⟩ = _ := World.news_of_block hb7 0 _ rfl
      have hd1 : wr.cell? ⟨w.heap.size + 1, 1, none⟩ = _ := World.news_of_block hb7 1 _ rfl
      have hd2 : wr.cell? ⟨w.heap.size + 1, 2, none⟩ = _ := World.news_of_block hb7 2 _ rfl
      have hd3 : wr.cell? ⟨w.heap.size + 1, 3, none⟩ = _ := World.news_of_block hb7 3 _ rfl
      have hd4 : wr.cell? ⟨w.heap.size + 1, 4, none⟩ = _ := World.news_of_block hb7 4 _ rfl
      by_cases hlt : k < m
      · have hw : IntKind.i64.wrap ((k : Int) + 1) = (k : Int) + 1 := IntWalk.i64_in _ (by omega)
        have hlt' : (k : Int) < 3 * (x / 8 % 5) + x % 2 := by have := HMM.out; omega
        have hk9 : (k : Int) ≤ 255 := by omega
        have E1 := Lib.hid (bytesT_succ x k)
        go_wp2_with (at_builtin; refine wpList_app _ rfl _ _ 23 23 rfl (w.heap.size + 2) 5 (.int .u8 0) 1 1 u_bytes info_u8 rfl (.slice A4 k c4) k (u8s (bytesT x k)) rfl (.slice (some ⟨wr.heap.size, 0, none⟩) 1 1) 1 [.int .u8 ((x + k) % 256)] rfl ?_ (by exact own_keep HS.out.2.2 ((Keep.refl NoB wr).alloc _) (fun _ _ h => h)) (by exact Src.ofSlice _ u_bytes ⟨wr.heap.size, 0, none⟩ 1 1 _ rfl (World.news_of_block (cs := #[.int .u8 ((x + k) % 256)]) (t := 5) (fr := (0, 0)) (heap_alloc_new wr _)) (by simp [Value.oneCell'])) (by simp only [maxLen]; omega) (by omega) (by have := HS.out.2.1; simp; omega); intro v3 w3 hap; refine Hid.out ?_)
        refine Lib.hid ?_
        have Hg3 : Hid (Grow w w3 ∧ w.heap.size + 2 ≤ w3.heap.size) := ⟨((((HS.out.1.mono (T := fun k => w.heap.size + 2 ≤ k) (fun _ h => h.elim)).alloc _).grown hap.grew (fun k hk => .inl (HS.out.2.2.lt k hk).1))).new (fun _ h => by omega), by have h1 := HS.out.2.1; have h2 := hap.grew.size; simp at h2; omega⟩
        have HK := ((Keep.refl (fun k => w.heap.size + 2 ≤ k) wr).alloc (.cells #[.int .u8 ((x + k) % 256)] 5)).grown hap.grew (fun k hk => .inl (HS.out.2.2.lt k hk).1)
        have hs2 := HS.out.2.1
        have hc4 := (HK.block w.heap.size (by omega) (by omega)).trans hb4
        have hc7 := (HK.block (w.heap.size + 1) (by omega) (by omega)).trans hb7
        have Ho3 := Lib.hid hap.own
        obtain ⟨A6, c6, rfl, _⟩ := own_slice hap.own
        have hlb : ∀ q, (Value.slice A6 (k + 1) c6).ownBlock = some q → w.heap.size + 2 ≤ q := fun q hq => (hap.own.lt q hq).1
        clear hap HK
        rw [← E1.out] at Ho3
        have hd3' : w3.cell? ⟨w.heap.size + 1, 3, none⟩ = _ := World.news_of_block hc7 3 _ rfl
        have hfr : ∀ o, w3.frozen? ⟨w.heap.size + 1, o, none⟩ = false := fun o => frozen0 o hc7
        have Hc := Lib.hid hc4
        have Hc' := Lib.hid hc7
        have Hlb := Lib.hid hlb
        clear hd0 hd1 hd2 hd3 hd4 hb4 hb7 hc4 hc7 hlb
        go_wp2
        go_roundw
        case rel =>
          have hkk : Keep (fun q => q = w.heap.size + 1) w3 (w3.setCell ⟨w.heap.size + 1, 3, none⟩ (.slice A6 (k + 1) c6)) := (Keep.refl (fun q => q = w.heap.size + 1) w3).setCell (p := ⟨w.heap.size + 1, 3, none⟩) (.inl rfl) _
          refine ⟨k + 1, by omega, by go_num, A6, c6, (hkk.block w.heap.size (by have := Hg3.out.2; omega) (by simp)).trans Hc.out, ?_, Hg3.out.1.setCell (.inr (by simp)) _, Nat.le_trans Hg3.out.2 hkk.size, own_keep Ho3.out hkk (fun q hq => by have := Hlb.out q hq; omega)⟩
          have hq := Hc'.out
          simp only [World.setCell, Array.getElem?_modify]
          simp [hq]
        case measure => simp [intOf]; omega
      · obtain rfl : k = m := by omega
        have hlt' : ¬ ((k : Int) < 3 * (x / 8 % 5) + x % 2) := by have := HMM.out; omega
        have hf0 : wr.cell? ⟨w.heap.size, 0, none⟩ = _ := World.news_of_block hb4 0 _ rfl
        have hf1 : wr.cell? ⟨w.heap.size, 1, none⟩ = _ := World.news_of_block hb4 1 _ rfl
        have hf2 : wr.cell? ⟨w.heap.size, 2, none⟩ = _ := World.news_of_block hb4 2 _ rfl
        have hf3 : wr.cell? ⟨w.heap.size, 3, none⟩ = _ := World.news_of_block hb4 3 _ rfl
        have hf4 : wr.cell? ⟨w.heap.size, 4, none⟩ = _ := World.news_of_block hb4 4 _ rfl
        have hfr : ∀ o, wr.frozen? ⟨w.heap.size, o, none⟩ = false := fun o => frozen0 o hb4
        have HB := Lib.hid hb4
        clear hb4 hb7
        obtain ⟨hw5, hg5⟩ := stored5 (.int .i64 2) (.int .i64 2) (.slice none 0 0) (.slice A4 k c4) (.slice none 0 0) HS.out.1 (Nat.le_refl _) HB.out
        have hk5 : Keep (fun q => q = w.heap.size) wr (((((wr.setCell ⟨w.heap.size, 0, none⟩ (.int .i64 2)).setCell ⟨w.heap.size, 1, none⟩ (.int .i64 2)).setCell ⟨w.heap.size, 2, none⟩ (.slice none 0 0)).setCell ⟨w.heap.size, 3, none⟩ (.slice A4 k c4)).setCell ⟨w.heap.size, 4, none⟩ (.slice none 0 0)) :=
          ((((((Keep.refl (fun q => q = w.heap.size) wr).setCell (p := ⟨w.heap.size, 0, none⟩) (.inl rfl) _).setCell (p := ⟨w.heap.size, 1, none⟩) (.inl rfl) _).setCell (p := ⟨w.heap.size, 2, none⟩) (.inl rfl) _).setCell (p := ⟨w.heap.size, 3, none⟩) (.inl rfl) _).setCell (p := ⟨w.heap.size, 4, none⟩) (.inl rfl) _)
        have ho5 := own_keep HS.out.2.2 hk5 (fun q hq => by have := (HS.out.2.2.lt q hq).1; omega)
        clear hk5
        have HG5 := Lib.hid hg5
        have HW5 := Lib.hid hw5
        have HO5 := Lib.hid ho5
        clear hg5 hw5 ho5
        go_wp2
        revert HG5 HW5 HO5
        generalize (((((wr.setCell ⟨w.heap.size, 0, none⟩ (.int .i64 2)).setCell ⟨w.heap.size, 1, none⟩ (.int .i64 2)).setCell ⟨w.heap.size, 2, none⟩ (.slice none 0 0)).setCell ⟨w.heap.size, 3, none⟩ (.slice A4 k c4)).setCell ⟨w.heap.size, 4, none⟩ (.slice none 0 0)) = w5
        intro HG5 HW5 HO5
        have HFIN : Hid (TreePost l.length v w (.returned (.tuple #[.agg #[.int .i64 2, .int .i64 2, .slice none 0 0, .slice A4 k c4, .slice none 0 0], .slice (some ⟨ad.block, ad.off + 1, none⟩) (n - 1) (c - 1)])) w5) := by
          have hs := HT.out
          rw [HLN.out] at hs ⊢
          refine Lib.hid ⟨.mk 2 2 [] (bytesT x k) [], none, A4, none, 0, c4, 0, l, _, _, by simp [Tr.kind, Tr.size, Tr.ws, Tr.bs, Tr.kids, bytesT_length], HG5.out, ?_, .mk (fun _ h => by cases h) (bytesT_num x k) (fun _ h => by cases h), .mk (by simp) (by rw [bytesT_length]; omega) (by simp) (fun _ h => by cases h), hs, Nat.le_refl _, hu⟩
          exact ((Foot.of_own HO5.out).imp (fun W hs => by
            show TrR W _ (.slice none 0 0) (.slice A4 (bytesT x k).length c4) (.slice none 0 0)
            rw [bytesT_length]
            exact .mk (rows := []) (sliceR_none _ _) (by rw [bytesT_length]; exact hs) (sliceR_none _ _) (fun r h => by cases h))).mono (fun k h => h.2) (fun q hq => ⟨by have := (HO5.out.lt q hq).1; omega, (HO5.out.lt q hq).2⟩)
        obtain ⟨hf0, hf1, hf2, hf3, hf4, hfr⟩ := cells5 HW5.out
        refine bodyPost_ret (v := .tuple #[.agg #[.int .i64 2, .int .i64 2, .slice none 0 0, .slice A4 k c4, .slice none 0 0], .slice (some ⟨ad.block, ad.off + 1, none⟩) (n - 1) (c - 1)]) ?_ rfl HFIN.out
        rw [results_cell_tmp rfl]; go_simp
  · have hm1 : (x % 8 == 1) = false := beq_eq_false_iff_ne.2 (by omega)
    have hm2 : (x % 8 == 2) = true := beq_iff_eq.2 hm
    clear h hm hmm hd hn hcell hga hgb
    go_enter Tryz.func56, Tryz.ntmps56
    go_wp2_with fail
    have hy1 : 0 ≤ x / 8 % 5 := by omega
    have hy2 : x / 8 % 5 ≤ 4 := by omega
    have hz1 : 0 ≤ x % 2 := by omega
    have hz2 : x % 2 ≤ 1 := by omega
    go_loopw [9] (fun v wr => ∃ k : Nat, k ≤ m ∧ v = .int .i64 k ∧ ∃ A4 c4, wr.heap[w.heap.size]? = some (.cells #[.int .i64 0, .int .i64 0, .slice none 0 0, .slice none 0 0, .slice none 0 0] 114 (0, 0)) ∧ wr.heap[w.heap.size + 1]? = some (.cells #[.int .i64 2, .int .i64 2, .slice none 0 0, .slice A4 k c4, .slice none 0 0] 114 (0, 0)) ∧ Hid (Grow w wr ∧ w.heap.size + 2 ≤ wr.heap.size ∧ wr.ownsRow (w.heap.size + 2) 5 1 (.slice A4 k c4) k (u8s (bytesT x k)))) (fun v _ => m - (intOf v).toNat)
    case atStart => exact ⟨0, by omega, rfl, none, 0, (two_alloc w _ _).1, (two_alloc w _ _).2.1, ((Keep.refl NoB w).alloc _).alloc _, Nat.le_of_eq (two_alloc w _ _).2.2.symm, World.ownsRow_nil _ (w.heap.size + 2) 5 1⟩
    case round =>
      obtain ⟨k, hk, rfl, A4, c4, hb4, hb7, HS⟩ := hrel
      have hwa : IntKind.i64.wrap (3 * (x / 8 % 5)) = 3 * (x / 8 % 5) := IntWalk.i64_in _ (by omega)
      have hwb : IntKind.i64.wrap (3 * (x / 8 % 5) + x % 2) = 3 * (x / 8 % 5) + x % 2 := IntWalk.i64_in _ (by omega)
      have hd0 : wr.cell? ⟨w.heap.size + 1, 0, none⟩ = _ := World.news_of_block hb7 0 _ rfl
      have hd1 : wr.cell? ⟨w.heap.size + 1, 1, none⟩ = _ := World.news_of_block hb7 1 _ rfl
      have hd2 : wr.cell? ⟨w.heap.size + 1, 2, none⟩ = _ := World.news_of_block hb7 2 _ rfl
      have hd3 : wr.cell? ⟨w.heap.size + 1, 3, none⟩ = _ := World.news_of_block hb7 3 _ rfl
      have hd4 : wr.cell? ⟨w.heap.size + 1, 4, none⟩ = _ := World.news_of_block hb7 4 _ rfl
      by_cases hlt : k < m
      · have hw : IntKind.i64.wrap ((k : Int) + 1) = (k : Int) + 1 := IntWalk.i64_in _ (by omega)
        have hlt' : (k : Int) < 3 * (x / 8 % 5) + x % 2 := by have := HMM.out; omega
        have hk9 : (k : Int) ≤ 255 := by omega
        have E1 := Lib.hid (bytesT_succ x k)
        go_wp2_with (at_builtin; refine wpList_app _ rfl _ _ 23 23 rfl (w.heap.size + 2) 5 (.int .u8 0) 1 1 u_bytes info_u8 rfl (.slice A4 k c4) k (u8s (bytesT x k)) rfl (.slice (some ⟨wr.heap.size, 0, none⟩) 1 1) 1 [.int .u8 ((x + k) % 256)] rfl ?_ (by exact own_keep HS.out.2.2 ((Keep.refl NoB wr).alloc _) (fun _ _ h => h)) (by exact Src.ofSlice _ u_bytes ⟨wr.heap.size, 0, none⟩ 1 1 _ rfl (World.news_of_block (cs := #[.int .u8 ((x + k) % 256)]) (t := 5) (fr := (0, 0)) (heap_alloc_new wr _)) (by simp [Value.oneCell'])) (by simp only [maxLen]; omega) (by omega) (by have := HS.out.2.1; simp; omega); intro v3 w3 hap; refine Hid.out ?_)
        refine Lib.hid ?_
        have Hg3 : Hid (Grow w w3 ∧ w.heap.size + 2 ≤ w3.heap.size) := ⟨((((HS.out.1.mono (T := fun k => w.heap.size + 2 ≤ k) (fun _ h => h.elim)).alloc _).grown hap.grew (fun k hk => .inl (HS.out.2.2.lt k hk).1))).new (fun _ h => by omega), by have h1 := HS.out.2.1; have h2 := hap.grew.size; simp at h2; omega⟩
        have HK := ((Keep.refl (fun k => w.heap.size + 2 ≤ k) wr).alloc (.cells #[.int .u8 ((x + k) % 256)] 5)).grown hap.grew (fun k hk => .inl (HS.out.2.2.lt k hk).1)
        have hs2 := HS.out.2.1
        have hc4 := (HK.block w.heap.size (by omega) (by omega)).trans hb4
        have hc7 := (HK.block (w.heap.size + 1) (by omega) (by omega)).trans hb7
        have Ho3 := Lib.hid hap.own
        obtain ⟨A6, c6, rfl, _⟩ := own_slice hap.own
        have hlb : ∀ q, (Value.slice A6 (k + 1) c6).ownBlock = some q → w.heap.size + 2 ≤ q := fun q hq => (hap.own.lt q hq).1
        clear hap HK
        rw [← E1.out] at Ho3
        have hd3' : w3.cell? ⟨w.heap.size + 1, 3, none⟩ = _ := World.news_of_block hc7 3 _ rfl
        have hfr : ∀ o, w3.frozen? ⟨w.heap.size + 1, o, none⟩ = false := fun o => frozen0 o hc7
        have Hc := Lib.hid hc4
        have Hc' := Lib.hid hc7
        have Hlb := Lib.hid hlb
        clear hd0 hd1 hd2 hd3 hd4 hb4 hb7 hc4 hc7 hlb
        go_wp2
        go_roundw
        case rel =>
          have hkk : Keep (fun q => q = w.heap.size + 1) w3 (w3.setCell ⟨w.heap.size + 1, 3, none⟩ (.slice A6 (k + 1) c6)) := (Keep.refl (fun q => q = w.heap.size + 1) w3).setCell (p := ⟨w.heap.size + 1, 3, none⟩) (.inl rfl) _
          refine ⟨k + 1, by omega, by go_num, A6, c6, (hkk.block w.heap.size (by have := Hg3.out.2; omega) (by simp)).trans Hc.out, ?_, Hg3.out.1.setCell (.inr (by simp)) _, Nat.le_trans Hg3.out.2 hkk.size, own_keep Ho3.out hkk (fun q hq => by have := Hlb.out q hq; omega)⟩
          have hq := Hc'.out
          simp only [World.setCell, Array.getElem?_modify]
          simp [hq]
        case measure => simp [intOf]; omega
      · obtain rfl : k = m := by omega
        have hlt' : ¬ ((k : Int) < 3 * (x / 8 % 5) + x % 2) := by have := HMM.out; omega
        have hf0 : wr.cell? ⟨w.heap.size, 0, none⟩ = _ := World.news_of_block hb4 0 _ rfl
        have hf1 : wr.cell? ⟨w.heap.size, 1, none⟩ = _ := World.news_of_block hb4 1 _ rfl
        have hf2 : wr.cell? ⟨w.heap.size, 2, none⟩ = _ := World.news_of_block hb4 2 _ rfl
        have hf3 : wr.cell? ⟨w.heap.size, 3, none⟩ = _ := World.news_of_block hb4 3 _ rfl
        have hf4 : wr.cell? ⟨w.heap.size, 4, none⟩ = _ := World.news_of_block hb4 4 _ rfl
        have hfr : ∀ o, wr.frozen? ⟨w.heap.size, o, none⟩ = false := fun o => frozen0 o hb4
        have HB := Lib.hid hb4
        clear hb4 hb7
        obtain ⟨hw5, hg5⟩ := stored5 (.int .i64 2) (.int .i64 2) (.slice none 0 0) (.slice A4 k c4) (.slice none 0 0) HS.out.1 (Nat.le_refl _) HB.out
        have hk5 : Keep (fun q => q = w.heap.size) wr (((((wr.setCell ⟨w.heap.size, 0, none⟩ (.int .i64 2)).setCell ⟨w.heap.size, 1, none⟩ (.int .i64 2)).setCell ⟨w.heap.size, 2, none⟩ (.slice none 0 0)).setCell ⟨w.heap.size, 3, none⟩ (.slice A4 k c4)).setCell ⟨w.heap.size, 4, none⟩ (.slice none 0 0)) :=
          ((((((Keep.refl (fun q => q = w.heap.size) wr).setCell (p := ⟨w.heap.size, 0, none⟩) (.inl rfl) _).setCell (p := ⟨w.heap.size, 1, none⟩) (.inl rfl) _).setCell (p := ⟨w.heap.size, 2, none⟩) (.inl rfl) _).setCell (p := ⟨w.heap.size, 3, none⟩) (.inl rfl) _).setCell (p := ⟨w.heap.size, 4, none⟩) (.inl rfl) _)
        have ho5 := own_keep HS.out.2.2 hk5 (fun q hq => by have := (HS.out.2.2.lt q hq).1; omega)
        clear hk5
        have HG5 := Lib.hid hg5
        have HW5 := Lib.hid hw5
        have HO5 := Lib.hid ho5
        clear hg5 hw5 ho5
        go_wp2
        revert HG5 HW5 HO5
        generalize (((((wr.setCell ⟨w.heap.size, 0, none⟩ (.int .i64 2)).setCell ⟨w.heap.size, 1, none⟩ (.int .i64 2)).setCell ⟨w.heap.size, 2, none⟩ (.slice none 0 0)).setCell ⟨w.heap.size, 3, none⟩ (.slice A4 k c4)).setCell ⟨w.heap.size, 4, none⟩ (.slice none 0 0)) = w5
        intro HG5 HW5 HO5
        have HFIN : Hid (TreePost l.length v w (.returned (.tuple #[.agg #[.int .i64 2, .int .i64 2, .slice none 0 0, .slice A4 k c4, .slice none 0 0], .slice (some ⟨ad.block, ad.off + 1, none⟩) (n - 1) (c - 1)])) w5) := by
          have hs := HT.out
          rw [HLN.out] at hs ⊢
          refine Lib.hid ⟨.mk 2 2 [] (bytesT x k) [], none, A4, none, 0, c4, 0, l, _, _, by simp [Tr.kind, Tr.size, Tr.ws, Tr.bs, Tr.kids, bytesT_length], HG5.out, ?_, .mk (fun _ h => by cases h) (bytesT_num x k) (fun _ h => by cases h), .mk (by simp) (by rw [bytesT_length]; omega) (by simp) (fun _ h => by cases h), hs, Nat.le_refl _, hu⟩
          exact ((Foot.of_own HO5.out).imp (fun W hs => by
            show TrR W _ (.slice none 0 0) (.slice A4 (bytesT x k).length c4) (.slice none 0 0)
            rw [bytesT_length]
            exact .mk (rows := []) (sliceR_none _ _) (by rw [bytesT_length]; exact hs) (sliceR_none _ _) (fun r h => by cases h))).mono (fun k h => h.2) (fun q hq => ⟨by have := (HO5.out.lt q hq).1; omega, (HO5.out.lt q hq).2⟩)
        obtain ⟨hf0, hf1, hf2, hf3, hf4, hfr⟩ := cells5 HW5.out
        refine bodyPost_ret (v := .tuple #[.agg #[.int .i64 2, .int .i64 2, .slice none 0 0, .slice A4 k c4, .slice none 0 0], .slice (some ⟨ad.block, ad.off + 1, none⟩) (n - 1) (c - 1)]) ?_ rfl HFIN.out
        rw [results_cell_tmp rfl]; go_simp
set_option maxRecDepth 100000 in
set_option maxHeartbeats 4000000 in
theorem tree12_eq (x : Int) (ad : Addr) (deep : Nat) (v w : World) (hv : Grow v w) (h : SliceR 1 (.slice (some ad) 1 1) 1 (u8s [x]) v) (hx : 0 ≤ x ∧ x ≤ 255) (hd : deep ≠ 0) (m : Nat) (hmm : (m : Int) = 3 * (x / 8 % 5) + x % 2) (hm : x % 8 = 1 ∨ x % 8 = 2) :
    Calls Tryz.prog 56 #[(.slice (some ad) 1 1), .int .i64 deep] w (TreePost ([] : List Int).length v w) := by
  have HT : Hid (SliceR 1 (.slice (some ad) 0 0) 0 (u8s []) v) := Lib.hid ⟨some ad, 0, rfl, Nat.le_refl _, by simp [u8s], fun _ => rfl, fun j u hu => by simp [u8s] at hu⟩
  have hcell0 : v.cell? ad = some (.int .u8 x) := by
    obtain ⟨A9, c9, e9, _, _, _, hq⟩ := h
    injection e9 with e9 _ _
    obtain ⟨a9, e8, hc⟩ := hq 0 (.int .u8 x) rfl
    rw [← e9] at e8
    injection e8 with e8
    subst e8
    rw [Addr.add_zero'] at hc
    exact hc
  have hcell := hv.cell hcell0 (fun h => h)
  clear hcell0 hv
  have hu : okU [] := fun y hy => by cases hy
  have hn : 0 = ([] : List Int).length := rfl
  have hdq : (((deep : Nat) : Int) == 0) = false := beq_eq_false_iff_ne.2 (by omega)
  have hmb : (x % 8 == 0) = false := beq_eq_false_iff_ne.2 (by omega)
  have HMM := Lib.hid hmm
  have hm9 : m ≤ 20 := by omega
  have hga := (Keep.refl NoB w).alloc (.cells #[.int .i64 0, .int .i64 0, .slice none 0 0, .slice none 0 0, .slice none 0 0] 114)
  have hgb := hga.alloc (.cells #[.int .i64 0, .int .i64 0, .slice none 0 0, .slice none 0 0, .slice none 0 0] 114)
  have hcell2 := hga.cell hcell (fun h => h)
  have HX : Hid (0 ≤ x ∧ x ≤ 255) := Lib.hid hx
  obtain ⟨hx1, hx2⟩ := hx
  rcases hm with hm | hm
  · have hm1 : (x % 8 == 1) = true := beq_iff_eq.2 hm
    clear h hm hmm hd hn hcell hga hgb
    go_enter Tryz.func56, Tryz.ntmps56
    go_wp2_with fail
    have hy1 : 0 ≤ x / 8 % 5 := by omega
    have hy2 : x / 8 % 5 ≤ 4 := by omega
    have hz1 : 0 ≤ x % 2 := by omega
    have hz2 : x % 2 ≤ 1 := by omega
    go_loopw [9] (fun v wr => ∃ k : Nat, k ≤ m ∧ v = .int .i64 k ∧ ∃ A4 c4, wr.heap[w.heap.size]? = some (.cells #[.int .i64 0, .int .i64 0, .slice none 0 0, .slice none 0 0, .slice none 0 0] 114 (0, 0)) ∧ wr.heap[w.heap.size + 1]? = some (.cells #[.int .i64 2, .int .i64 2, .slice none 0 0, .slice A4 k c4, .slice none 0 0] 114 (0, 0)) ∧ Hid (Grow w wr ∧ w.heap.size + 2 ≤ wr.heap.size ∧ wr.ownsRow (w.heap.size + 2) 5 1 (.slice A4 k c4) k (u8s (bytesT x k)))) (fun v _ => m - (intOf v).toNat)
    case atStart => exact ⟨0, by omega, rfl, none, 0, (two_alloc w _ _).1, (two_alloc w _ _).2.1, ((Keep.refl NoB w).alloc _).alloc _, Nat.le_of_eq (two_alloc w _ _).2.2.symm, World.ownsRow_nil _ (w.heap.size + 2) 5 1⟩
    case round =>
      obtain ⟨k, hk, rfl, A4, c4, hb4, hb7, HS⟩ := hrel
      have hwa : IntKind.i64.wrap (3 * (x / 8 % 5)) = 3 * (x / 8 % 5) := IntWalk.i64_in _ (by omega)
      have hwb : IntKind.i64.wrap (3 * (x / 8 % 5) + x % 2) = 3 * (x / 8 % 5) + x % 2 := IntWalk.i64_in _ (by omega)
      have hd0 : wr.cell? ⟨w.heap.size + 1, 0, none⟩ = _ := World.news_of_block hb7 0 _ rfl
      have hd1 : wr.cell? ⟨w.heap.size + 1, 1, none⟩ = _ := World.news_of_block hb7 1 _ rfl
      have hd2 : wr.cell? ⟨w.heap.size + 1, 2, none⟩ = _ := World.news_of_block hb7 2 _ rfl
      have hd3 : wr.cell? ⟨w.heap.size + 1, 3, none⟩ = _ := World.news_of_block hb7 3 _ rfl
      have hd4 : wr.cell? ⟨w.heap.size + 1, 4, none⟩ = _ := World.news_of_block hb7 4 _ rfl
      by_cases hlt : k < m
      · have hw : IntKind.i64.wrap ((k : Int) + 1) = (k : Int) + 1 := IntWalk.i64_in _ (by omega)
        have hlt' : (k : Int) < 3 * (x / 8 % 5) + x % 2 := by have := HMM.out; omega
        have hk9 : (k : Int) ≤ 255 := by omega
        have E1 := Lib.hid (bytesT_succ x k)
        go_wp2_with (at_builtin; refine wpList_app _ rfl _ _ 23 23 rfl (w.heap.size + 2) 5 (.int .u8 0) 1 1 u_bytes info_u8 rfl (.slice A4 k c4) k (u8s (bytesT x k)) rfl (.slice (some ⟨wr.heap.size, 0, none⟩) 1 1) 1 [.int .u8 ((x + k) % 256)] rfl ?_ (by exact own_keep HS.out.2.2 ((Keep.refl NoB wr).alloc _) (fun _ _ h => h)) (by exact Src.ofSlice _ u_bytes ⟨wr.heap.size, 0, none⟩ 1 1 _ rfl (World.news_of_block (cs := #[.int .u8 ((x + k) % 256)]) (t := 5) (fr := (0, 0)) (heap_alloc_new wr _)) (by simp [Value.oneCell'])) (by simp only [maxLen]; omega) (by omega) (by have := HS.out.2.1; simp; omega); intro v3 w3 hap; refine Hid.out ?_)
        refine Lib.hid ?_
        have Hg3 : Hid (Grow w w3 ∧ w.heap.size + 2 ≤ w3.heap.size) := ⟨((((HS.out.1.mono (T := fun k => w.heap.size + 2 ≤ k) (fun _ h => h.elim)).alloc _).grown hap.grew (fun k hk => .inl (HS.out.2.2.lt k hk).1))).new (fun _ h => by omega), by have h1 := HS.out.2.1; have h2 := hap.grew.size; simp at h2; omega⟩
        have HK := ((Keep.refl (fun k => w.heap.size + 2 ≤ k) wr).alloc (.cells #[.int .u8 ((x + k) % 256)] 5)).grown hap.grew (fun k hk => .inl (HS.out.2.2.lt k hk).1)
        have hs2 := HS.out.2.1
        have hc4 := (HK.block w.heap.size (by omega) (by omega)).trans hb4
        have hc7 := (HK.block (w.heap.size + 1) (by omega) (by omega)).trans hb7
        have Ho3 := Lib.hid hap.own
        obtain ⟨A6, c6, rfl, _⟩ := own_slice hap.own
        have hlb : ∀ q, (Value.slice A6 (k + 1) c6).ownBlock = some q → w.heap.size + 2 ≤ q := fun q hq => (hap.own.lt q hq).1
        clear hap HK
        rw [← E1.out] at Ho3
        have hd3' : w3.cell? ⟨w.heap.size + 1, 3, none⟩ = _ := World.news_of_block hc7 3 _ rfl
        have hfr : ∀ o, w3.frozen? ⟨w.heap.size + 1, o, none⟩ = false := fun o => frozen0 o hc7
        have Hc := Lib.hid hc4
        have Hc' := Lib.hid hc7
        have Hlb := Lib.hid hlb
        clear hd0 hd1 hd2 hd3 hd4 hb4 hb7 hc4 hc7 hlb
        go_wp2
        go_roundw
        case rel =>
          have hkk : Keep (fun q => q = w.heap.size + 1) w3 (w3.setCell ⟨w.heap.size + 1, 3, none⟩ (.slice A6 (k + 1) c6)) := (Keep.refl (fun q => q = w.heap.size + 1) w3).setCell (p := ⟨w.heap.size + 1, 3, none⟩) (.inl rfl) _
          refine ⟨k + 1, by omega, by go_num, A6, c6, (hkk.block w.heap.size (by have := Hg3.out.2; omega) (by simp)).trans Hc.out, ?_, Hg3.out.1.setCell (.inr (by simp)) _, Nat.le_trans Hg3.out.2 hkk.size, own_keep Ho3.out hkk (fun q hq => by have := Hlb.out q hq; omega)⟩
          have hq := Hc'.out
          simp only [World.setCell, Array.getElem?_modify]
          simp [hq]
        case measure => simp [intOf]; omega
      · obtain rfl : k = m := by omega
        have hlt' : ¬ ((k : Int) < 3 * (x / 8 % 5) + x % 2) := by have := HMM.out; omega
        have hf0 : wr.cell? ⟨w.heap.size, 0, none⟩ = _ := World.news_of_block hb4 0 _ rfl
        have hf1 : wr.cell? ⟨w.heap.size, 1, none⟩ = _ := World.news_of_block hb4 1 _ rfl
        have hf2 : wr.cell? ⟨w.heap.size, 2, none⟩ = _ := World.news_of_block hb4 2 _ rfl
        have hf3 : wr.cell? ⟨w.heap.size, 3, none⟩ = _ := World.news_of_block hb4 3 _ rfl
        have hf4 : wr.cell? ⟨w.heap.size, 4, none⟩ = _ := World.news_of_block hb4 4 _ rfl
        have hfr : ∀ o, wr.frozen? ⟨w.heap.size, o, none⟩ = false := fun o => frozen0 o hb4
        have HB := Lib.hid hb4
        clear hb4 hb7
        obtain ⟨hw5, hg5⟩ := stored5 (.int .i64 2) (.int .i64 2) (.slice none 0 0) (.slice A4 k c4) (.slice none 0 0) HS.out.1 (Nat.le_refl _) HB.out
        have hk5 : Keep (fun q => q = w.heap.size) wr (((((wr.setCell ⟨w.heap.size, 0, none⟩ (.int .i64 2)).setCell ⟨w.heap.size, 1, none⟩ (.int .i64 2)).setCell ⟨w.heap.size, 2, none⟩ (.slice none 0 0)).setCell ⟨w.heap.size, 3, none⟩ (.slice A4 k c4)).setCell ⟨w.heap.size, 4, none⟩ (.slice none 0 0)) :=
          ((((((Keep.refl (fun q => q = w.heap.size) wr).setCell (p := ⟨w.heap.size, 0, none⟩) (.inl rfl) _).setCell (p := ⟨w.heap.size, 1, none⟩) (.inl rfl) _).setCell (p := ⟨w.heap.size, 2, none⟩) (.inl rfl) _).setCell (p := ⟨w.heap.size, 3, none⟩) (.inl rfl) _).setCell (p := ⟨w.heap.size, 4, none⟩) (.inl rfl) _)
        have ho5 := own_keep HS.out.2.2 hk5 (fun q hq => by have := (HS.out.2.2.lt q hq).1; omega)
        clear hk5
        have HG5 := Lib.hid hg5
        have HW5 := Lib.hid hw5
        have HO5 := Lib.hid ho5
        clear hg5 hw5 ho5
        go_wp2
        revert HG5 HW5 HO5
        generalize (((((wr.setCell ⟨w.heap.size, 0, none⟩ (.int .i64 2)).setCell ⟨w.heap.size, 1, none⟩ (.int .i64 2)).setCell ⟨w.heap.size, 2, none⟩ (.slice none 0 0)).setCell ⟨w.heap.size, 3, none⟩ (.slice A4 k c4)).setCell ⟨w.heap.size, 4, none⟩ (.slice none 0 0)) = w5
        intro HG5 HW5 HO5
        have HFIN : Hid (TreePost ([] : List Int).length v w (.returned (.tuple #[.agg #[.int .i64 2, .int .i64 2, .slice none 0 0, .slice A4 k c4, .slice none 0 0], .slice (some ad) 0 0])) w5) := by
          have hs := HT.out
          skip
          refine Lib.hid ⟨.mk 2 2 [] (bytesT x k) [], none, A4, none, 0, c4, 0, ([] : List Int), _, _, by simp [Tr.kind, Tr.size, Tr.ws, Tr.bs, Tr.kids, bytesT_length], HG5.out, ?_, .mk (fun _ h => by cases h) (bytesT_num x k) (fun _ h => by cases h), .mk (by simp) (by rw [bytesT_length]; omega) (by simp) (fun _ h => by cases h), hs, Nat.le_refl _, hu⟩
          exact ((Foot.of_own HO5.out).imp (fun W hs => by
            show TrR W _ (.slice none 0 0) (.slice A4 (bytesT x k).length c4) (.slice none 0 0)
            rw [bytesT_length]
            exact .mk (rows := []) (sliceR_none _ _) (by rw [bytesT_length]; exact hs) (sliceR_none _ _) (fun r h => by cases h))).mono (fun k h => h.2) (fun q hq => ⟨by have := (HO5.out.lt q hq).1; omega, (HO5.out.lt q hq).2⟩)
        obtain ⟨hf0, hf1, hf2, hf3, hf4, hfr⟩ := cells5 HW5.out
        refine bodyPost_ret (v := .tuple #[.agg #[.int .i64 2, .int .i64 2, .slice none 0 0, .slice A4 k c4, .slice none 0 0], .slice (some ad) 0 0]) ?_ rfl HFIN.out
        rw [results_cell_tmp rfl]; go_simp
  · have hm1 : (x % 8 == 1) = false := beq_eq_false_iff_ne.2 (by omega)
    have hm2 : (x % 8 == 2) = true := beq_iff_eq.2 hm
    clear h hm hmm hd hn hcell hga hgb
    go_enter Tryz.func56, Tryz.ntmps56
    go_wp2_with fail
    have hy1 : 0 ≤ x / 8 % 5 := by omega
    have hy2 : x / 8 % 5 ≤ 4 := by omega
    have hz1 : 0 ≤ x % 2 := by omega
    have hz2 : x % 2 ≤ 1 := by omega
    go_loopw [9] (fun v wr => ∃ k : Nat, k ≤ m ∧ v = .int .i64 k ∧ ∃ A4 c4, wr.heap[w.heap.size]? = some (.cells #[.int .i64 0, .int .i64 0, .slice none 0 0, .slice none 0 0, .slice none 0 0] 114 (0, 0)) ∧ wr.heap[w.heap.size + 1]? = some (.cells #[.int .i64 2, .int .i64 2, .slice none 0 0, .slice A4 k c4, .slice none 0 0] 114 (0, 0)) ∧ Hid (Grow w wr ∧ w.heap.size + 2 ≤ wr.heap.size ∧ wr.ownsRow (w.heap.size + 2) 5 1 (.slice A4 k c4) k (u8s (bytesT x k)))) (fun v _ => m - (intOf v).toNat)
    case atStart => exact ⟨0, by omega, rfl, none, 0, (two_alloc w _ _).1, (two_alloc w _ _).2.1, ((Keep.refl NoB w).alloc _).alloc _, Nat.le_of_eq (two_alloc w _ _).2.2.symm, World.ownsRow_nil _ (w.heap.size + 2) 5 1⟩
    case round =>
      obtain ⟨k, hk, rfl, A4, c4, hb4, hb7, HS⟩ := hrel
      have hwa : IntKind.i64.wrap (3 * (x / 8 % 5)) = 3 * (x / 8 % 5) := IntWalk.i64_in _ (by omega)
      have hwb : IntKind.i64.wrap (3 * (x / 8 % 5) + x % 2) = 3 * (x / 8 % 5) + x % 2 := IntWalk.i64_in _ (by omega)
      have hd0 : wr.cell? ⟨w.heap.size + 1, 0, none⟩ = _ := World.news_of_block hb7 0 _ rfl
      have hd1 : wr.cell? ⟨w.heap.size + 1, 1, none⟩ = _ := World.news_of_block hb7 1 _ rfl
      have hd2 : wr.cell? ⟨w.heap.size + 1, 2, none⟩ = _ := World.news_of_block hb7 2 _ rfl
      have hd3 : wr.cell? ⟨w.heap.size + 1, 3, none⟩ = _ := World.news_of_block hb7 3 _ rfl
      have hd4 : wr.cell? ⟨w.heap.size + 1, 4, none⟩ = _ := World.news_of_block hb7 4 _ rfl
      by_cases hlt : k < m
      · have hw : IntKind.i64.wrap ((k : Int) + 1) = (k : Int) + 1 := IntWalk.i64_in _ (by omega)
        have hlt' : (k : Int) < 3 * (x / 8 % 5) + x % 2 := by have := HMM.out; omega
        have hk9 : (k : Int) ≤ 255 := by omega
        have E1 := Lib.hid (bytesT_succ x k)
        go_wp2_with (at_builtin; refine wpList_app _ rfl _ _ 23 23 rfl (w.heap.size + 2) 5 (.int .u8 0) 1 1 u_bytes info_u8 rfl (.slice A4 k c4) k (u8s (bytesT x k)) rfl (.slice (some ⟨wr.heap.size, 0, none⟩) 1 1) 1 [.int .u8 ((x + k) % 256)] rfl ?_ (by exact own_keep HS.out.2.2 ((Keep.refl NoB wr).alloc _) (fun _ _ h => h)) (by exact Src.ofSlice _ u_bytes ⟨wr.heap.size, 0, none⟩ 1 1 _ rfl (World.news_of_block (cs := #[.int .u8 ((x + k) % 256)]) (t := 5) (fr := (0, 0)) (heap_alloc_new wr _)) (by simp [Value.oneCell'])) (by simp only [maxLen]; omega) (by omega) (by have := HS.out.2.1; simp; omega); intro v3 w3 hap; refine Hid.out ?_)
        refine Lib.hid ?_
        have Hg3 : Hid (Grow w w3 ∧ w.heap.size + 2 ≤ w3.heap.size) := ⟨((((HS.out.1.mono (T := fun k => w.heap.size + 2 ≤ k) (fun _ h => h.elim)).alloc _).grown hap.grew (fun k hk => .inl (HS.out.2.2.lt k hk).1))).new (fun _ h => by omega), by have h1 := HS.out.2.1; have h2 := hap.grew.size; simp at h2; omega⟩
        have HK := ((Keep.refl (fun k => w.heap.size + 2 ≤ k) wr).alloc (.cells #[.int .u8 ((x + k) % 256)] 5)).grown hap.grew (fun k hk => .inl (HS.out.2.2.lt k hk).1)
        have hs2 := HS.out.2.1
        have hc4 := (HK.block w.heap.size (by omega) (by omega)).trans hb4
        have hc7 := (HK.block (w.heap.size + 1) (by omega) (by omega)).trans hb7
        have Ho3 := Lib.hid hap.own
        obtain ⟨A6, c6, rfl, _⟩ := own_slice hap.own
        have hlb : ∀ q, (Value.slice A6 (k + 1) c6).ownBlock = some q → w.heap.size + 2 ≤ q := fun q hq => (hap.own.lt q hq).1
        clear hap HK
        rw [← E1.out] at Ho3
        have hd3' : w3.cell? ⟨w.heap.size + 1, 3, none⟩ = _ := World.news_of_block hc7 3 _ rfl
        have hfr : ∀ o, w3.frozen? ⟨w.heap.size + 1, o, none⟩ = false := fun o => frozen0 o hc7
        have Hc := Lib.hid hc4
        have Hc' := Lib.hid hc7
        have Hlb := Lib.hid hlb
        clear hd0 hd1 hd2 hd3 hd4 hb4 hb7 hc4 hc7 hlb
        go_wp2
        go_roundw
        case rel =>
          have hkk : Keep (fun q => q = w.heap.size + 1) w3 (w3.setCell ⟨w.heap.size + 1, 3, none⟩ (.slice A6 (k + 1) c6)) := (Keep.refl (fun q => q = w.heap.size + 1) w3).setCell (p := ⟨w.heap.size + 1, 3, none⟩) (.inl rfl) _
          refine ⟨k + 1, by omega, by go_num, A6, c6, (hkk.block w.heap.size (by have := Hg3.out.2; omega) (by simp)).trans Hc.out, ?_, Hg3.out.1.setCell (.inr (by simp)) _, Nat.le_trans Hg3.out.2 hkk.size, own_keep Ho3.out hkk (fun q hq => by have := Hlb.out q hq; omega)⟩
          have hq := Hc'.out
          simp only [World.setCell, Array.getElem?_modify]
          simp [hq]
        case measure => simp [intOf]; omega
      · obtain rfl : k = m := by omega
        have hlt' : ¬ ((k : Int) < 3 * (x / 8 % 5) + x % 2) := by have := HMM.out; omega
        have hf0 : wr.cell? ⟨w.heap.size, 0, none⟩ = _ := World.news_of_block hb4 0 _ rfl
        have hf1 : wr.cell? ⟨w.heap.size, 1, none⟩ = _ := World.news_of_block hb4 1 _ rfl
        have hf2 : wr.cell? ⟨w.heap.size, 2, none⟩ = _ := World.news_of_block hb4 2 _ rfl
        have hf3 : wr.cell? ⟨w.heap.size, 3, none⟩ = _ := World.news_of_block hb4 3 _ rfl
        have hf4 : wr.cell? ⟨w.heap.size, 4, none⟩ = _ := World.news_of_block hb4 4 _ rfl
        have hfr : ∀ o, wr.frozen? ⟨w.heap.size, o, none⟩ = false := fun o => frozen0 o hb4
        have HB := Lib.hid hb4
        clear hb4 hb7
        obtain ⟨hw5, hg5⟩ := stored5 (.int .i64 2) (.int .i64 2) (.slice none 0 0) (.slice A4 k c4) (.slice none 0 0) HS.out.1 (Nat.le_refl _) HB.out
        have hk5 : Keep (fun q => q = w.heap.size) wr (((((wr.setCell ⟨w.heap.size, 0, none⟩ (.int .i64 2)).setCell ⟨w.heap.size, 1, none⟩ (.int .i64 2)).setCell ⟨w.heap.size, 2, none⟩ (.slice none 0 0)).setCell ⟨w.heap.size, 3, none⟩ (.slice A4 k c4)).setCell ⟨w.heap.size, 4, none⟩ (.slice none 0 0)) :=
          ((((((Keep.refl (fun q => q = w.heap.size) wr).setCell (p := ⟨w.heap.size, 0, none⟩) (.inl rfl) _).setCell (p := ⟨w.heap.size, 1, none⟩) (.inl rfl) _).setCell (p := ⟨w.heap.size, 2, none⟩) (.inl rfl) _).setCell (p := ⟨w.heap.size, 3, none⟩) (.inl rfl) _).setCell (p := ⟨w.heap.size, 4, none⟩) (.inl rfl) _)
        have ho5 := own_keep HS.out.2.2 hk5 (fun q hq => by have := (HS.out.2.2.lt q hq).1; omega)
        clear hk5
        have HG5 := Lib.hid hg5
        have HW5 := Lib.hid hw5
        have HO5 := Lib.hid ho5
        clear hg5 hw5 ho5
        go_wp2
        revert HG5 HW5 HO5
        generalize (((((wr.setCell ⟨w.heap.size, 0, none⟩ (.int .i64 2)).setCell ⟨w.heap.size, 1, none⟩ (.int .i64 2)).setCell ⟨w.heap.size, 2, none⟩ (.slice none 0 0)).setCell ⟨w.heap.size, 3, none⟩ (.slice A4 k c4)).setCell ⟨w.heap.size, 4, none⟩ (.slice none 0 0)) = w5
        intro HG5 HW5 HO5
        have HFIN : Hid (TreePost ([] : List Int).length v w (.returned (.tuple #[.agg #[.int .i64 2, .int .i64 2, .slice none 0 0, .slice A4 k c4, .slice none 0 0], .slice (some ad) 0 0])) w5) := by
          have hs := HT.out
          skip
          refine Lib.hid ⟨.mk 2 2 [] (bytesT x k) [], none, A4, none, 0, c4, 0, ([] : List Int), _, _, by simp [Tr.kind, Tr.size, Tr.ws, Tr.bs, Tr.kids, bytesT_length], HG5.out, ?_, .mk (fun _ h => by cases h) (bytesT_num x k) (fun _ h => by cases h), .mk (by simp) (by rw [bytesT_length]; omega) (by simp) (fun _ h => by cases h), hs, Nat.le_refl _, hu⟩
          exact ((Foot.of_own HO5.out).imp (fun W hs => by
            show TrR W _ (.slice none 0 0) (.slice A4 (bytesT x k).length c4) (.slice none 0 0)
            rw [bytesT_length]
            exact .mk (rows := []) (sliceR_none _ _) (by rw [bytesT_length]; exact hs) (sliceR_none _ _) (fun r h => by cases h))).mono (fun k h => h.2) (fun q hq => ⟨by have := (HO5.out.lt q hq).1; omega, (HO5.out.lt q hq).2⟩)
        obtain ⟨hf0, hf1, hf2, hf3, hf4, hfr⟩ := cells5 HW5.out
        refine bodyPost_ret (v := .tuple #[.agg #[.int .i64 2, .int .i64 2, .slice none 0 0, .slice A4 k c4, .slice none 0 0], .slice (some ad) 0 0]) ?_ rfl HFIN.out
        rw [results_cell_tmp rfl]; go_simp
end Go.Proofs.YtfkcpaahdlkcdaaGreat


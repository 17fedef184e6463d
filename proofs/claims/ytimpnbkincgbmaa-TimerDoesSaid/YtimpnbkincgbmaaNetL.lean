import Derived.Test.YtimpnbkincgbmaaNetG
/-! The document's net (scullerref19): a list of pairs, never written behind its making. -/
set_option linter.unusedSimpArgs false
set_option linter.unusedVariables false
namespace Go.Proofs.Ytimpnbkincgbmaa
open Go.RowKit

theorem info_d : (Try.prog.info? 43).map (fun i => (i.zero, i.size, i.bytes)) = some (some (.agg #[.int .i64 0, .slice none 0 0]), 2, 32) := by kernel_rfl
theorem u_dl : Try.prog.underlying 37 = some (.slice 43) := by kernel_rfl

structure RefIs (l : List G) (v : Value) (R : Nat → Prop) (w : World) (vs : List Value) : Prop where
  row : w.ownsRow 0 43 2 v l.length vs
  rowR : ∀ k, v.ownBlock = some k → R k
  grams : GramsR l vs R w
  few : l.length ≤ 1000
  lt : ∀ k, R k → k < w.heap.size
def Ref (l : List G) (v : Value) (R : Nat → Prop) (w : World) : Prop := ∃ vs, RefIs l v R w vs

theorem RefIs.keep {l : List G} {v : Value} {R S : Nat → Prop} {w w' : World} {vs : List Value} (h : RefIs l v R w vs) (hk : Keep S w w') (hd : ∀ k, R k → ¬ S k) : RefIs l v R w' vs :=
  ⟨own_keep h.row hk (fun k hv => hd k (h.rowR k hv)), h.rowR, h.grams.keep hk hd, h.few, fun k hk2 => Nat.lt_of_lt_of_le (h.lt k hk2) hk.size⟩
theorem Ref.keep {l : List G} {v : Value} {R S : Nat → Prop} {w w' : World} (h : Ref l v R w) (hk : Keep S w w') (hd : ∀ k, R k → ¬ S k) : Ref l v R w' := by
  obtain ⟨vs, h⟩ := h
  exact ⟨vs, h.keep hk hd⟩
theorem Ref.grow {l : List G} {v : Value} {R : Nat → Prop} {w w' : World} (h : Ref l v R w) (hk : Grow w w') : Ref l v R w' := h.keep hk (fun _ _ h => h)
theorem Ref.slice {l : List G} {v : Value} {R : Nat → Prop} {w : World} (h : Ref l v R w) : ∃ A c, v = .slice A l.length c := by
  obtain ⟨vs, h⟩ := h
  obtain ⟨A, c, e, _⟩ := own_slice h.row
  exact ⟨A, c, e⟩
theorem Ref.lt {l : List G} {v : Value} {R : Nat → Prop} {w : World} (h : Ref l v R w) : ∀ k, R k → k < w.heap.size := by
  obtain ⟨vs, h⟩ := h
  exact h.lt
theorem Ref.few {l : List G} {v : Value} {R : Nat → Prop} {w : World} (h : Ref l v R w) : l.length ≤ 1000 := by
  obtain ⟨vs, h⟩ := h
  exact h.few
theorem ref_nil (w : World) : Ref [] (.slice none 0 0) NoB w := ⟨[], World.ownsRow_nil _ _ _ _, by simp [Value.ownBlock], fun i x hx => by simp at hx, by simp, fun _ h => h.elim⟩

theorem RefIs.get {l : List G} {R : Nat → Prop} {w : World} {v : Value} {vs : List Value} (hN : RefIs l v R w vs) (i : Nat) (h1 : i < l.length) :
    ∃ r c A n, v = .slice (some ⟨r, 0, none⟩) l.length c ∧ v.ownBlock = some r ∧ l.length ≤ c ∧ w.cell? ⟨r, i * 2, none⟩ = some (.int .i64 l[i].1) ∧ w.cell? ⟨r, i * 2 + 1, none⟩ = some (.slice A l[i].2.length n) ∧ l[i].2.length ≤ 200 ∧
      Foot (SliceR 1 (.slice A l[i].2.length n) l[i].2.length (u8s l[i].2)) w R ∧ vs[i * 2]? = some (.int .i64 l[i].1) ∧ vs[i * 2 + 1]? = some (.slice A l[i].2.length n) := by
  obtain ⟨r, c, hv, hr, hlc, hc⟩ := own_cells hN.row (by omega)
  obtain ⟨bv, h2, h3, h4, h5⟩ := hN.grams i l[i] (List.getElem?_eq_getElem h1)
  obtain ⟨A, n, rfl, _⟩ := h5.now
  exact ⟨r, c, A, n, hv, hr, hlc, by simpa using hc _ _ h2, by simpa using hc _ _ h3, h4, h5, h2, h3⟩

theorem ris_no (A : Option Addr) (n c : Nat) (i : Int) (w : World) (hi : i < 0 ∨ n ≤ i) : Calls Try.prog 43 #[.slice A n c, .int .i64 i] w fun e w' => e = .returned (.bool false) ∧ w = w' := by
  by_cases h0 : i < 0
  · go_enter Try.func43, Try.ntmps43
    go_wp2
    go_ret
    exact ⟨rfl, rfl⟩
  · have h1 : ¬ (i < (n : Int)) := by omega
    clear hi
    go_enter Try.func43, Try.ntmps43
    go_wp2
    go_ret
    exact ⟨rfl, rfl⟩
theorem ris_yes (A : Option Addr) (n c : Nat) (i : Int) (w : World) (h0 : 0 ≤ i) (h1 : i < n) : Calls Try.prog 43 #[.slice A n c, .int .i64 i] w fun e w' => e = .returned (.bool true) ∧ w = w' := by
  go_enter Try.func43, Try.ntmps43
  go_wp2
  go_ret
  exact ⟨rfl, rfl⟩

theorem rat_no (A : Option Addr) (n c : Nat) (i : Int) (w : World) (hi : i < 0 ∨ n ≤ i) : Calls Try.prog 23 #[.slice A n c, .int .i64 i] w fun e w' => e = .returned (.tuple #[.agg #[.int .i64 0, .slice none 0 0], .bool false]) ∧ Grow w w' := by
  go_enter Try.func23, Try.ntmps23
  go_wp2_with fail
  refine (ris_no A n c i _ hi).mono ?_
  rintro e w' ⟨rfl, rfl⟩
  go_wp2
  (try simp only [Exit.inBlock, Exit.then])
  refine bodyPost_ret (v := .tuple #[.agg #[.int .i64 0, .slice none 0 0], .bool false]) ?_ rfl ⟨rfl, ?_⟩
  · rw [results_cell_tmp rfl]; go_simp
  · exact (Keep.refl _ _).alloc _

set_option maxRecDepth 100000 in
theorem rat_yes (l : List G) (v : Value) (R : Nat → Prop) (i : Nat) (w : World) (hN : Ref l v R w) (h1 : i < l.length) : Calls Try.prog 23 #[v, .int .i64 i] w fun e w' =>
    ∃ A c, e = .returned (.tuple #[.agg #[.int .i64 l[i].1, .slice A l[i].2.length c], .bool true]) ∧ Grow w w' ∧ Foot (SliceR 1 (.slice A l[i].2.length c) l[i].2.length (u8s l[i].2)) w R ∧ l[i].2.length ≤ 200 := by
  obtain ⟨vs, hN⟩ := hN
  obtain ⟨r, c, A, n, rfl, hr, hlc, h2, h3, h4, h5, _⟩ := hN.get i h1
  have H := Lib.hid h5
  have Hl := Lib.hid h4
  generalize l[i].2 = b at *
  generalize l[i].1 = to at *
  have h2n : (w.alloc (.cells #[.int .i64 0, .slice none 0 0] 43)).cell? ⟨r, i * 2, none⟩ = some (.int .i64 to) := ((Keep.refl NoB w).alloc _).cell h2 (fun h => h)
  have h3n : (w.alloc (.cells #[.int .i64 0, .slice none 0 0] 43)).cell? ⟨r, i * 2 + 1, none⟩ = some (.slice A b.length n) := ((Keep.refl NoB w).alloc _).cell h3 (fun h => h)
  have hi : (i : Int) < l.length := by omega
  clear hN h5 h4 h2 h3
  go_enter Try.func23, Try.ntmps23
  go_wp2_with fail
  refine (ris_yes _ l.length c i _ (by omega) hi).mono ?_
  rintro e w' ⟨rfl, rfl⟩
  go_wp2
  (try simp only [Exit.inBlock, Exit.then])
  refine bodyPost_ret (v := .tuple #[.agg #[.int .i64 to, .slice A b.length n], .bool true]) ?_ rfl ⟨A, n, rfl, ?_, H.out, Hl.out⟩
  · rw [results_cell_tmp rfl]; go_simp
  · exact (Keep.refl _ _).alloc _

theorem rpush_no (A : Option Addr) (n c : Nat) (to : Int) (A2 : Option Addr) (n2 c2 : Nat) (w : World) (h : to < 0 ∨ 1 < to ∨ 200 < n2 ∨ 1000 ≤ n) : Calls Try.prog 42 #[.slice A n c, .int .i64 to, .slice A2 n2 c2] w fun e w' =>
    e = .returned (.tuple #[.slice A n c, .bool false]) ∧ w = w' := by
  by_cases h0 : to < 0
  · clear h
    go_enter Try.func42, Try.ntmps42
    go_wp2
    go_ret2
    exact ⟨rfl, rfl⟩
  by_cases h1 : 1 < to
  · clear h
    go_enter Try.func42, Try.ntmps42
    go_wp2
    go_ret2
    exact ⟨rfl, rfl⟩
  by_cases h2 : (200 : Int) < n2
  · clear h
    go_enter Try.func42, Try.ntmps42
    go_wp2
    go_ret2
    exact ⟨rfl, rfl⟩
  · have h3 : (1000 : Int) ≤ n := by omega
    clear h
    go_enter Try.func42, Try.ntmps42
    go_wp2
    go_ret2
    exact ⟨rfl, rfl⟩
end Go.Proofs.Ytimpnbkincgbmaa

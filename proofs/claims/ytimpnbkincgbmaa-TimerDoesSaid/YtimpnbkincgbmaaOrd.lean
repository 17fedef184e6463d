import Derived.OrdersHeld
import Derived.Test.YtimpnbkincgbmaaMem
/-! A region that draws its order, walked in ONE order: what only reads is taken as soon as it may be; each operation that acts (those of 'acts') comes up alone, and leaves the old blocks as they were, but for those of 'ds' (which wait for every reading). -/
set_option linter.unusedSimpArgs false
set_option linter.unusedVariables false
namespace Go.Proofs.Ytimpnbkincgbmaa
open Go.RowKit

section
variable {P : Program} {ops : Array Oper} {Q : Exit → Act → World → Prop} {md : Region.Mode} {ds : List Nat}

def reachB (md : Region.Mode) (ops : Array Oper) (i : Nat) : Nat → Nat → Bool
  | 0, _ => false
  | fuel + 1, d => match ops[d]? with
    | some o => o.after.any fun e => Region.binds md e && (e.on == i || reachB md ops i fuel e.on)
    | none => false
def closedB (md : Region.Mode) (ops : Array Oper) (listed : Array Bool) : Bool :=
  (List.range ops.size).all fun j => !listed.getD j false || match ops[j]? with
    | some o => o.after.all fun e => !Region.binds md e || listed.getD e.on false
    | none => true
def ListedClosed (md : Region.Mode) (ops : Array Oper) (listed : Array Bool) : Prop :=
  ∀ j oj, ops[j]? = some oj → listed.getD j false = true → ∀ e ∈ oj.after, Region.binds md e = true → listed.getD e.on false = true
theorem closedB_spec {listed : Array Bool} (h : closedB md ops listed = true) : ListedClosed md ops listed := by
  intro j oj hj hl e he hb
  have hlt : j < ops.size := (Array.getElem?_eq_some_iff.1 hj).1
  have h1 := List.all_eq_true.1 h j (List.mem_range.2 hlt)
  simp only [hl, hj, Bool.not_true, Bool.false_or] at h1
  have h2 := Array.all_eq_true_iff_forall_mem.1 h1 e he
  simpa [hb] using h2
theorem ListedClosed.set {listed : Array Bool} {i : Nat} (h : ListedClosed md ops listed) (hi : i ∈ Region.ready md ops listed) : ListedClosed md ops (listed.setIfInBounds i true) := by
  obtain ⟨_, oi, hoi, hall⟩ := mem_ready.1 hi
  intro j oj hj hl e he hb
  by_cases hij : i = j
  · subst hij
    have : oj = oi := Option.some.inj (hj.symm.trans hoi)
    subst this
    exact getD_set_true (hall e he hb)
  · rw [getD_set_ne false hij] at hl
    exact getD_set_true (h j oj hj hl e he hb)
theorem reach_listed {listed : Array Bool} {i : Nat} (hc : ListedClosed md ops listed) : ∀ (fuel d : Nat), reachB md ops i fuel d = true → listed.getD d false = true → listed.getD i false = true
  | 0, _, h, _ => by simp [reachB] at h
  | fuel + 1, d, h, hl => by
    unfold reachB at h
    cases ho : ops[d]? with
    | none => rw [ho] at h; simp at h
    | some o =>
      rw [ho] at h
      obtain ⟨e, he, h1⟩ := Array.any_eq_true'.1 h
      simp only [Bool.and_eq_true, Bool.or_eq_true, beq_iff_eq] at h1
      have hle := hc d o ho hl e he h1.1
      rcases h1.2 with h2 | h2
      · rw [← h2]; exact hle
      · exact reach_listed hc fuel e.on h2 hle
theorem reach_not_ready {listed : Array Bool} {i d fuel : Nat} (hc : ListedClosed md ops listed) (hr : reachB md ops i fuel d = true) (hun : listed.getD i true = false) : d ∉ Region.ready md ops listed := by
  intro hd
  obtain ⟨_, o, ho, hall⟩ := mem_ready.1 hd
  have hi : listed.getD i false = true := by
    cases fuel with
    | zero => simp [reachB] at hr
    | succ n =>
      unfold reachB at hr
      rw [ho] at hr
      obtain ⟨e, he, h1⟩ := Array.any_eq_true'.1 hr
      simp only [Bool.and_eq_true, Bool.or_eq_true, beq_iff_eq] at h1
      have hle := hall e he h1.1
      rcases h1.2 with h2 | h2
      · rw [← h2]; exact hle
      · exact reach_listed hc n e.on h2 hle
  rcases Nat.lt_or_ge i listed.size with h' | h'
  · simp [h'] at hun hi
    rw [hun] at hi
    cases hi
  · simp [Array.getElem?_eq_none h'] at hun

def wpAnyG (P : Program) (md : Region.Mode) (ops : Array Oper) (Q : Exit → Act → World → Prop) (ds : List Nat) : Nat → Array Bool → Act → World → Prop
  | 0, listed, a, w => Region.ready md ops listed = [] ∧ Q .normal a w
  | fuel + 1, listed, a, w =>
    (Region.ready md ops listed = [] → Q .normal a w) ∧
    ∀ i ∈ Region.ready md ops listed, wpOp P ops Q i (fun a' w' => (i ∉ ds → Grow w w') ∧ wpAnyG P md ops Q ds fuel (listed.setIfInBounds i true) a' w') a w
theorem wpAny_of_G : ∀ (fuel : Nat) (listed : Array Bool) (a : Act) (w : World), wpAnyG P md ops Q ds fuel listed a w → wpAny P md ops Q fuel listed a w
  | 0, _, _, _, h => h
  | fuel + 1, _, _, _, h => ⟨h.1, fun i hi => wpOp_mono (fun a' w' h' => wpAny_of_G fuel _ a' w' h'.2) (h.2 i hi)⟩

theorem wpAnyG_first {i : Nat} {oi : Oper} {v : Value} (hi : ops[i]? = some oi) (hsel : ∀ (j : Nat) (o : Oper) cs b, ops[j]? = some o → o.op ≠ .select cs b)
    (hQ : ∀ c a w, Q (.panic c) (a.put oi.dst v) w → Q (.panic c) a w) (n : Nat) :
    ∀ (fuel : Nat) (listed : Array Bool) (a : Act) (w : World),
      (∀ j oj, ops[j]? = some oj → j ≠ i → listed.getD j true = false → (∀ e ∈ oj.after, Region.binds md e = true → e.on ≠ i) → oi.apart ops oj = true) →
      ListedClosed md ops listed → (∀ d ∈ ds, listed.getD d true = false → reachB md ops i n d = true) →
      i ∈ Region.ready md ops listed → YieldsIf P ops (Grow w) oi v a →
      wpAnyG P md ops Q ds fuel (listed.setIfInBounds i true) (a.put oi.dst v) w → wpAnyG P md ops Q ds (fuel + 1) listed a w := by
  intro fuel
  induction fuel with
  | zero =>
    intro listed a w _ _ _ hr hy H
    refine ⟨fun h => (by rw [h] at hr; cases hr), fun j hj => ?_⟩
    by_cases hji : j = i
    · subst hji; exact hy.wpOp hi (Keep.refl _ _) ⟨fun _ => Keep.refl _ _, H⟩
    · have := ready_mono hj hji
      rw [H.1] at this
      cases this
  | succ fuel ih =>
    intro listed a w hfree hc hd hr hy H
    refine ⟨fun h => (by rw [h] at hr; cases hr), fun j hj => ?_⟩
    by_cases hji : j = i
    · subst hji; exact hy.wpOp hi (Keep.refl _ _) ⟨fun _ => Keep.refl _ _, H⟩
    · have h1 := H.2 j (ready_mono hj hji)
      obtain ⟨hjun, oj, hoj, hall⟩ := mem_ready.1 hj
      have hiun := (mem_ready.1 hr).1
      have hnot : ∀ e ∈ oj.after, Region.binds md e = true → e.on ≠ i := fun e he hb heq => by
        have h1 := hall e he hb
        rw [heq] at h1
        rcases Nat.lt_or_ge i listed.size with h' | h'
        · simp [h'] at hiun h1; rw [hiun] at h1; cases h1
        · simp [Array.getElem?_eq_none h'] at h1
      have hjd : j ∉ ds := fun hm => reach_not_ready hc (hd j hm hjun) hiun hj
      have h2 := wpOp_putIf hoj (hfree j oj hoj hji hjun hnot) (fun cs b => hsel i oi cs b hi) (fun cs b => hsel j oj cs b hoj) hQ hy h1
      have hfree' : ∀ k ok, ops[k]? = some ok → k ≠ i → (listed.setIfInBounds j true).getD k true = false →
          (∀ e ∈ ok.after, Region.binds md e = true → e.on ≠ i) → oi.apart ops ok = true := fun k ok hk hki hun hno => by
        refine hfree k ok hk hki ?_ hno
        by_cases hjk : j = k
        · subst hjk; exact hjun
        · rw [getD_set_ne true hjk] at hun; exact hun
      have hd' : ∀ d ∈ ds, (listed.setIfInBounds j true).getD d true = false → reachB md ops i n d = true := fun d hm hun => by
        refine hd d hm ?_
        by_cases hjk : j = d
        · subst hjk; exact hjun
        · rw [getD_set_ne true hjk] at hun; exact hun
      refine wpOp_mono (fun a' w' h3 => ⟨h3.2.1, ih (listed.setIfInBounds j true) a' w' hfree' (hc.set hj) hd' (ready_mono hr (Ne.symm hji)) ?_ ?_⟩) h2
      · exact h3.1.imp (fun hx => ⟨hx.1, fun w2 hw2 => hx.2 w2 ((h3.2.1 hjd).grow hw2)⟩) id
      · rw [Array.setIfInBounds_comm _ _ hji]
        exact h3.2.2

theorem wpAnyG_pure {i : Nat} {oi : Oper} {v : Value} (hi : ops[i]? = some oi) (hsel : ∀ (j : Nat) (o : Oper) cs b, ops[j]? = some o → o.op ≠ .select cs b)
    (hQ : ∀ c a w, Q (.panic c) (a.put oi.dst v) w → Q (.panic c) a w):
    ∀ (fuel : Nat) (listed : Array Bool) (a : Act) (w : World),
      (∀ j oj, ops[j]? = some oj → j ≠ i → listed.getD j true = false → (∀ e ∈ oj.after, Region.binds md e = true → e.on ≠ i) → oi.apart ops oj = true) →
      i ∈ Region.ready md ops listed → YieldsIf P ops (fun _ => True) oi v a →
      wpAnyG P md ops Q ds fuel (listed.setIfInBounds i true) (a.put oi.dst v) w → wpAnyG P md ops Q ds (fuel + 1) listed a w := by
  intro fuel
  induction fuel with
  | zero =>
    intro listed a w _ hr hy H
    refine ⟨fun h => (by rw [h] at hr; cases hr), fun j hj => ?_⟩
    by_cases hji : j = i
    · subst hji; exact hy.wpOp hi trivial ⟨fun _ => Keep.refl _ _, H⟩
    · have := ready_mono hj hji
      rw [H.1] at this
      cases this
  | succ fuel ih =>
    intro listed a w hfree hr hy H
    refine ⟨fun h => (by rw [h] at hr; cases hr), fun j hj => ?_⟩
    by_cases hji : j = i
    · subst hji; exact hy.wpOp hi trivial ⟨fun _ => Keep.refl _ _, H⟩
    · have h1 := H.2 j (ready_mono hj hji)
      obtain ⟨hjun, oj, hoj, hall⟩ := mem_ready.1 hj
      have hiun := (mem_ready.1 hr).1
      have hnot : ∀ e ∈ oj.after, Region.binds md e = true → e.on ≠ i := fun e he hb heq => by
        have h1 := hall e he hb
        rw [heq] at h1
        rcases Nat.lt_or_ge i listed.size with h' | h'
        · simp [h'] at hiun h1; rw [hiun] at h1; cases h1
        · simp [Array.getElem?_eq_none h'] at h1
      have h2 := wpOp_putIf hoj (hfree j oj hoj hji hjun hnot) (fun cs b => hsel i oi cs b hi) (fun cs b => hsel j oj cs b hoj) hQ hy h1
      have hfree' : ∀ k ok, ops[k]? = some ok → k ≠ i → (listed.setIfInBounds j true).getD k true = false →
          (∀ e ∈ ok.after, Region.binds md e = true → e.on ≠ i) → oi.apart ops ok = true := fun k ok hk hki hun hno => by
        refine hfree k ok hk hki ?_ hno
        by_cases hjk : j = k
        · subst hjk; exact hjun
        · rw [getD_set_ne true hjk] at hun; exact hun
      refine wpOp_mono (fun a' w' h3 => ⟨h3.2.1, ih (listed.setIfInBounds j true) a' w' hfree' (ready_mono hr (Ne.symm hji)) h3.1 ?_⟩) h2
      rw [Array.setIfInBounds_comm _ _ hji]
      exact h3.2.2

/-- The order's checks. -/
def ordOk (md : Region.Mode) (ops : Array Oper) (acts reads ds : List Nat) : List Nat → Array Bool → Bool
  | [], l => (Region.ready md ops l).isEmpty
  | i :: rest, l => (Region.ready md ops l).contains i && (if acts.contains i then Region.ready md ops l == [i] else
      Region.free md ops l i && (!reads.contains i || closedB md ops l && ds.all (fun d => l.getD d true || reachB md ops i ops.size d))) && ordOk md ops acts reads ds rest (l.setIfInBounds i true)

/-- The walk in that order. -/
def wpOrd (P : Program) (ops : Array Oper) (Q : Exit → Act → World → Prop) (acts reads ds : List Nat) : List Nat → Act → World → Prop
  | [], a, w => Q .normal a w
  | i :: rest, a, w => match ops[i]? with
    | none => False
    | some o => if acts.contains i then wpOp P ops Q i (fun a' w' => (i ∉ ds → Grow w w') ∧ wpOrd P ops Q acts reads ds rest a' w') a w
      else ∃ v, YieldsIf P ops (if reads.contains i then Grow w else fun _ => True) o v a ∧ (∀ c a w, Q (.panic c) (a.put o.dst v) w → Q (.panic c) a w) ∧ wpOrd P ops Q acts reads ds rest (a.put o.dst v) w

theorem wpAnyG_of_ord {acts reads : List Nat} (hs : Region.noSelect ops = true) : ∀ (ord : List Nat) (l : Array Bool) (a : Act) (w : World), ordOk md ops acts reads ds ord l = true → wpOrd P ops Q acts reads ds ord a w → wpAnyG P md ops Q ds ord.length l a w
  | [], l, a, w, hc, h => by
    simp only [ordOk, List.isEmpty_iff] at hc
    exact ⟨hc, h⟩
  | i :: rest, l, a, w, hc, h => by
    simp only [ordOk, Bool.and_eq_true] at hc
    obtain ⟨⟨h1, h2⟩, h3⟩ := hc
    have hr : i ∈ Region.ready md ops l := by simpa using h1
    unfold wpOrd at h
    cases ho : ops[i]? with
    | none => rw [ho] at h; exact h.elim
    | some o =>
      rw [ho] at h
      cases ha : acts.contains i with
      | true =>
        simp only [ha, if_true] at h h2
        have hr1 : Region.ready md ops l = [i] := by simpa using h2
        refine ⟨fun h0 => (by rw [hr1] at h0; cases h0), fun j hj => ?_⟩
        rw [hr1] at hj
        have : j = i := by simpa using hj
        subst this
        exact wpOp_mono (fun a' w' h' => ⟨h'.1, wpAnyG_of_ord hs rest _ a' w' h3 h'.2⟩) h
      | false =>
        simp only [ha, Bool.false_eq_true, if_false] at h h2
        simp only [Bool.and_eq_true] at h2
        obtain ⟨hf, h2⟩ := h2
        obtain ⟨v, hy, hQ, hk⟩ := h
        cases hrd : reads.contains i with
        | false =>
          simp only [hrd, Bool.false_eq_true, if_false] at hy
          exact wpAnyG_pure ho (Region.noSelect_spec hs) hQ _ l a w (Region.free_spec ho hf) hr hy (wpAnyG_of_ord hs rest _ _ w h3 hk)
        | true =>
          simp only [hrd, if_true, Bool.not_true, Bool.false_or, Bool.and_eq_true] at hy h2
          refine wpAnyG_first ho (Region.noSelect_spec hs) hQ ops.size _ l a w (Region.free_spec ho hf) (closedB_spec h2.1) (fun d hm hun => ?_) hr hy (wpAnyG_of_ord hs rest _ _ w h3 hk)
          have := List.all_eq_true.1 h2.2 d hm
          rw [hun] at this
          simpa using this

/-- The region. -/
theorem region_ord {id : Nat} {a : Act} {w : World} (ord acts reads ds : List Nat) (hm : P.follows .mixedOrders = true)
    (hc : (Region.noSelect ops && ordOk .any ops acts reads ds ord (Array.replicate ops.size false) && (ord.length == ops.size)) = true)
    (h : wpOrd P ops Q acts reads ds ord a w.drew) : (Code.region id ops true).wp P Q a w := by
  simp only [Bool.and_eq_true, beq_iff_eq] at hc
  have := wpAnyG_of_ord hc.1.1 ord _ a w.drew hc.1.2 h
  rw [hc.2] at this
  exact wp_region_any hm (wpAny_of_G _ _ _ _ this)

section
variable {acts reads : List Nat} {rest : List Nat} {i : Nat} {o : Oper} {a : Act} {w : World}
theorem ord_nil (h : Q .normal a w) : wpOrd P ops Q acts reads ds [] a w := h
/-- An operation that only computes. -/
theorem ord_pure {N : Option Tmp} (hl : ops.toList[i]? = some o) (ha : acts.contains i = false) (hr : reads.contains i = false) (hN : o.dst = N) (hg : o.guard = none) (hQ : ∀ v c a w, Q (.panic c) (a.put N v) w → Q (.panic c) a w) (v : Value) (a' : Act)
    (hy : ∀ w', (execOp a.eval o).run P w' = .ok (.value v) w') (ha' : a.put N v = a') (h : wpOrd P ops Q acts reads ds rest a' w) : wpOrd P ops Q acts reads ds (i :: rest) a w := by
  have hi : ops[i]? = some o := by simpa using hl
  subst ha'
  subst hN
  unfold wpOrd
  rw [hi]
  simp only [ha, hr, Bool.false_eq_true, if_false, if_true]
  exact ⟨v, .inl ⟨by simp [Region.wanted, hg], fun w' _ => hy w'⟩, fun c a w => hQ v c a w, h⟩
/-- An operation that reads: what it yields, in every world that has grown out of this one. -/
theorem ord_read {N : Option Tmp} (hl : ops.toList[i]? = some o) (ha : acts.contains i = false) (hr : reads.contains i = true) (hN : o.dst = N) (hg : o.guard = none) (hQ : ∀ v c a w, Q (.panic c) (a.put N v) w → Q (.panic c) a w) (v : Value) (a' : Act)
    (hy : ∀ w', Grow w w' → (execOp a.eval o).run P w' = .ok (.value v) w') (ha' : a.put N v = a') (h : wpOrd P ops Q acts reads ds rest a' w) : wpOrd P ops Q acts reads ds (i :: rest) a w := by
  have hi : ops[i]? = some o := by simpa using hl
  subst ha'
  subst hN
  unfold wpOrd
  rw [hi]
  simp only [ha, hr, Bool.false_eq_true, if_false, if_true]
  exact ⟨v, .inl ⟨by simp [Region.wanted, hg], hy⟩, fun c a w => hQ v c a w, h⟩
/-- One that only computes, whose guard says yes. -/
theorem ord_pureG {N : Option Tmp} (hl : ops.toList[i]? = some o) (ha : acts.contains i = false) (hr : reads.contains i = false) (hN : o.dst = N) (hg : Region.wanted o (yielded ops a.tmps) = true) (hQ : ∀ v c a w, Q (.panic c) (a.put N v) w → Q (.panic c) a w) (v : Value) (a' : Act)
    (hy : ∀ w', (execOp a.eval o).run P w' = .ok (.value v) w') (ha' : a.put N v = a') (h : wpOrd P ops Q acts reads ds rest a' w) : wpOrd P ops Q acts reads ds (i :: rest) a w := by
  have hi : ops[i]? = some o := by simpa using hl
  subst ha'
  subst hN
  unfold wpOrd
  rw [hi]
  simp only [ha, hr, Bool.false_eq_true, if_false, if_true]
  exact ⟨v, .inl ⟨hg, fun w' _ => hy w'⟩, fun c a w => hQ v c a w, h⟩
/-- One that reads, whose guard says yes. -/
theorem ord_readG {N : Option Tmp} (hl : ops.toList[i]? = some o) (ha : acts.contains i = false) (hr : reads.contains i = true) (hN : o.dst = N) (hg : Region.wanted o (yielded ops a.tmps) = true) (hQ : ∀ v c a w, Q (.panic c) (a.put N v) w → Q (.panic c) a w) (v : Value) (a' : Act)
    (hy : ∀ w', Grow w w' → (execOp a.eval o).run P w' = .ok (.value v) w') (ha' : a.put N v = a') (h : wpOrd P ops Q acts reads ds rest a' w) : wpOrd P ops Q acts reads ds (i :: rest) a w := by
  have hi : ops[i]? = some o := by simpa using hl
  subst ha'
  subst hN
  unfold wpOrd
  rw [hi]
  simp only [ha, hr, Bool.false_eq_true, if_false, if_true]
  exact ⟨v, .inl ⟨hg, hy⟩, fun c a w => hQ v c a w, h⟩
/-- One whose guard says no. -/
theorem ord_skip {N : Option Tmp} (hl : ops.toList[i]? = some o) (ha : acts.contains i = false) (hN : o.dst = N) (hg : Region.wanted o (yielded ops a.tmps) = false) (hQ : ∀ v c a w, Q (.panic c) (a.put N v) w → Q (.panic c) a w) (a' : Act)
    (ha' : a.put N undef = a') (h : wpOrd P ops Q acts reads ds rest a' w) : wpOrd P ops Q acts reads ds (i :: rest) a w := by
  have hi : ops[i]? = some o := by simpa using hl
  subst ha'
  subst hN
  unfold wpOrd
  rw [hi]
  simp only [ha, Bool.false_eq_true, if_false]
  exact ⟨undef, .inr ⟨hg, rfl⟩, fun c a w => hQ undef c a w, h⟩
/-- One that acts: as the walk knows it. -/
theorem ord_act (hl : ops.toList[i]? = some o) (ha : acts.contains i = true)
    (h : ∀ K : Act → World → Prop, (∀ a' w', ((i ∉ ds → Grow w w') ∧ wpOrd P ops Q acts reads ds rest a' w') → K a' w') → if Region.wanted o (yielded ops a.tmps) = true then Oper.wp P o a w K Q else K (a.put o.dst undef) w) :
    wpOrd P ops Q acts reads ds (i :: rest) a w := by
  have hi : ops[i]? = some o := by simpa using hl
  unfold wpOrd
  rw [hi]
  simp only [ha, if_true]
  have := h _ (fun _ _ h => h)
  unfold wpOp
  simp only [hi]
  split
  · rename_i hw; rw [if_pos hw] at this; exact .inl this
  · rename_i hw; rw [if_neg hw] at this; exact this
/-- One that acts, its run shown. -/
theorem ord_do {N : Option Tmp} (hl : ops.toList[i]? = some o) (ha : acts.contains i = true) (hN : o.dst = N) (hg : o.guard = none) (v : Value) (w' : World) (a' : Act)
    (hy : (execOp a.eval o).run P w = .ok (.value v) w') (hk : i ∉ ds → Grow w w') (ha' : a.put N v = a') (h : wpOrd P ops Q acts reads ds rest a' w') : wpOrd P ops Q acts reads ds (i :: rest) a w := by
  refine ord_act hl ha (fun K hK => ?_)
  rw [if_pos (by simp [Region.wanted, hg])]
  subst hN
  subst ha'
  unfold Oper.wp
  rw [hy, Oper.upon_value]
  exact hK _ _ ⟨hk, h⟩
/-- An assignment. -/
theorem ord_set {N : Option Tmp} (hl : ops.toList[i]? = some o) (ha : acts.contains i = true) (hN : o.dst = N) (hg : o.guard = none) (v : Value) (a' : Act)
    (hy : (execOp a.eval o).run P w = .ok (.value v) w) (ha' : a.put N v = a') (h : wpOrd P ops Q acts reads ds rest a' w) : wpOrd P ops Q acts reads ds (i :: rest) a w :=
  ord_do hl ha hN hg v w a' hy (fun _ => Keep.refl _ _) ha' h
/-- A new block. -/
theorem ord_new {N : Option Tmp} (hl : ops.toList[i]? = some o) (ha : acts.contains i = true) (hN : o.dst = N) (hg : o.guard = none) (v : Value) (ob : Obj) (a' : Act)
    (hy : (execOp a.eval o).run P w = .ok (.value v) (w.alloc ob)) (ha' : a.put N v = a') (h : wpOrd P ops Q acts reads ds rest a' (w.alloc ob)) : wpOrd P ops Q acts reads ds (i :: rest) a w :=
  ord_do hl ha hN hg v _ a' hy (fun _ => (Keep.refl _ _).alloc _) ha' h
/-- A store. -/
theorem ord_put (hl : ops.toList[i]? = some o) (ha : acts.contains i = true) (hN : o.dst = none) (hg : o.guard = none) (w' : World)
    (hy : (execOp a.eval o).run P w = .ok .skip w') (hk : i ∉ ds → Grow w w') (h : wpOrd P ops Q acts reads ds rest a w') : wpOrd P ops Q acts reads ds (i :: rest) a w := by
  refine ord_act hl ha (fun K hK => ?_)
  rw [if_pos (by simp [Region.wanted, hg])]
  unfold Oper.wp
  rw [hy, Oper.upon_skip, hN]
  exact hK _ _ ⟨hk, h⟩
/-- A call of a Go function. -/
theorem ord_call {N : Option Tmp} {f : FuncId} {fn : Func} {xs : Array Operand} {ts : Array TypeId} (hl : ops.toList[i]? = some o) (ha : acts.contains i = true) (hN : o.dst = N) (hg : o.guard = none)
    (hop : o.op = .call { callee := .value (.func f), args := xs, argTypes := ts }) (hf : P.funcs[f]? = some fn) (hname : (fn.name == "runtime.NumGoroutine") = false) (hb : fn.body.isSome = true) (args : List Value) (hargs : xs.toList.map a.eval = args)
    (h : Calls P f args.toArray w fun e w' => ∃ v, e = .returned v ∧ (i ∉ ds → Grow w w') ∧ wpOrd P ops Q acts reads ds rest (a.put N v) w') : wpOrd P ops Q acts reads ds (i :: rest) a w := by
  refine ord_act hl ha (fun K hK => ?_)
  rw [if_pos (by simp [Region.wanted, hg])]
  subst hN
  unfold Oper.wp
  have h1 : fn.name ≠ "runtime.NumGoroutine" := by simpa using hname
  obtain ⟨c, hc⟩ := Option.isSome_iff_exists.1 hb
  have hcall : (callFunc f args.toArray).run P w = .ok (.enter f args.toArray) w := by simp [callFunc, hf, h1, hc]
  have he : (execOp a.eval o).run P w = .ok (.enter f args.toArray) w := by
    unfold execOp
    have hx : xs.map a.eval = args.toArray := by rw [← hargs]; apply Array.ext'; simp
    rw [hop]
    simp [resolve, Deferred.ofValue, invoke, Act.eval, hx, hcall]
  rw [he, Oper.upon_enter]
  refine h.mono fun e w'' hh => ?_
  obtain ⟨v, rfl, h1, h2⟩ := hh
  exact hK _ _ ⟨h1, h2⟩
end
end
end Go.Proofs.Ytimpnbkincgbmaa

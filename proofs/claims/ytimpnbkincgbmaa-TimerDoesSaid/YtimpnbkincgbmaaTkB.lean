import Derived.Test.YtimpnbkincgbmaaTkA
set_option linter.unusedSimpArgs false
set_option linter.unusedVariables false
namespace Go.Proofs.Ytimpnbkincgbmaa
open Go.RowKit

theorem okSet_del {l : List KT} (hn : ND l) (hl : l.length ≤ 1000) (key : Int) : okSet l key = decide ((delL l key).length < 1000) := by
  unfold okSet
  cases hh : hasL l key with
  | true =>
    obtain ⟨t, ht⟩ := hasL_iff.1 hh
    have := delL_length hn ht
    have h2 : (delL l key).length < 1000 := by omega
    simp [h2]
  | false =>
    have : delL l key = l := delL_absent (fun x hx e => by
      have : hasL l key = true := hasL_iff.2 ⟨x.2, by rw [← e]; exact hx⟩
      rw [hh] at this
      cases this)
    rw [this]
    rfl

set_option maxRecDepth 100000 in
theorem kset_calls (l : List KT) (v : Value) (w : World) (h : Kl l v w) (hl : l.length ≤ 1000) (hn : ND l) (key t : Int) :
    Calls Try.prog 49 #[v, .int .i64 key, .int .i64 t] w fun e w' => ∃ v', e = .returned (.tuple #[v', .bool (okSet l key)]) ∧ Kl (rSet l key t) v' w' ∧ Grow w w' ∧ ∀ k, v'.ownBlock = some k → v.ownBlock = some k ∨ w.heap.size ≤ k := by
  have hok := okSet_del hn hl key
  have hdle := delL_le l key
  have H := Lib.hid h
  obtain ⟨A, n, rfl⟩ := h.slice
  clear h
  go_enter Try.func49, Try.ntmps49
  go_wp2_with fail
  refine (kdrop_calls l _ w H.out hl key).mono ?_
  rintro e w1 ⟨A1, c1, rfl, ho1, hg1⟩
  have Ho1 := Lib.hid ho1
  have Hg1 := Lib.hid hg1
  have Hok := Lib.hid hok
  have hsz1 := hg1.size
  clear ho1 hg1 hok
  by_cases hf : (delL l key).length < 1000
  · have hb : okSet l key = true := by rw [Hok.out]; simp [hf]
    have Hb := Lib.hid hb
    have Hr : Hid (ktV (rSet l key t) = ktV (delL l key) ++ [.int .i64 key, .int .i64 t] ∧ (rSet l key t).length = (delL l key).length + 1) := by
      have : rSet l key t = delL l key ++ [(key, t)] := by simp [rSet, hb, setL]
      rw [this]
      exact ⟨by rw [ktV_append]; rfl, by simp⟩
    have hf' : ((delL l key).length : Int) < 1000 := by omega
    have Hs := Lib.hid ((SliceR.of_own Ho1.out).src u_kts (ktV_one _))
    generalize delL l key = X at *
    clear hb
    go_wp2_with (at_builtin; refine wpList_app _ rfl _ _ 64 64 rfl w1.heap.size 106 (.agg #[.int .i64 0, .int .i64 0]) 2 16 u_kts info_kt rfl (.slice none 0 0) 0 [] rfl (.slice A1 X.length c1) X.length (ktV X) rfl ?_ (by exact World.ownsRow_nil _ _ _ _) (by exact Hs.out) (by simp only [maxLen]; omega) (by omega) (by exact Nat.le_refl _); intro v2 w2 hap; refine Hid.out ?_)
    refine Lib.hid ?_
    have ho2 := hap.own
    simp only [Nat.zero_add, List.nil_append] at ho2
    have hg2 : Grow w1 w2 := (Keep.refl NoB w1).grown hap.grew (by simp [Value.ownBlock])
    obtain ⟨A2, c2, rfl, _⟩ := own_slice ho2
    clear hap
    have Ho2 := Lib.hid ho2
    have Hg2 := Lib.hid hg2
    have hsz2 := hg2.size
    clear ho2 hg2
    go_wp2_with (at_builtin; refine wpList_app _ rfl _ _ 64 64 rfl w1.heap.size 106 (.agg #[.int .i64 0, .int .i64 0]) 2 16 u_kts info_kt rfl (.slice A2 X.length c2) X.length (ktV X) rfl (.slice (some ⟨w2.heap.size, 0, none⟩) 1 1) 1 [.int .i64 key, .int .i64 t] rfl ?_ (by exact own_keep Ho2.out ((Keep.refl NoB w2).alloc _) (fun _ _ h => h)) (by exact Src.ofSlice _ u_kts ⟨w2.heap.size, 0, none⟩ 1 1 _ rfl (World.news_of_block (cs := #[.int .i64 key, .int .i64 t]) (t := 106) (fr := (0, 0)) (heap_alloc_new w2 _)) (by simp [Value.oneCell'])) (by simp only [maxLen]; omega) (by omega) (by simp; omega); intro v3 w3 hap; refine Hid.out ?_)
    refine Lib.hid ?_
    have Ho3 := Lib.hid hap.own
    have Hg3 : Hid (Grow w w3) := (Hg1.out.grow ((((Hg2.out.mono (T := fun k => w1.heap.size ≤ k) (fun _ h => h.elim)).alloc _).grown hap.grew (fun k hk => .inl (Ho2.out.lt k hk).1)).new (fun _ h => h)))
    obtain ⟨A3, c3, rfl, _⟩ := own_slice hap.own
    clear hap
    go_wp2
    go_ret2
    refine ⟨.slice A3 (X.length + 1) c3, by rw [Hb.out]; rfl, ?_, Hg3.out, fun k hk => .inr (Nat.le_trans hsz1 (Ho3.out.lt k hk).1)⟩
    unfold Kl
    rw [Hr.out.1, Hr.out.2]
    exact own_base0 Ho3.out
  · have hb : okSet l key = false := by rw [Hok.out]; simp [hf]
    have Hb := Lib.hid (And.intro hb (show rSet l key t = l by simp [rSet, hb]))
    have hf' : ¬ (((delL l key).length : Int) < 1000) := by omega
    have hf2 : (1000 : Int) ≤ (delL l key).length := by omega
    clear hb
    go_wp2
    go_ret2
    refine ⟨.slice A l.length n, by rw [Hb.out.1]; rfl, ?_, Hg1.out, fun k hk => .inl hk⟩
    rw [Hb.out.2]
    exact H.out.grow Hg1.out
end Go.Proofs.Ytimpnbkincgbmaa

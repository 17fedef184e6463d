import Derived.Test.YtfkcpaahdlkcdaaGreatRRecvQuota15
set_option linter.unusedSimpArgs false
set_option linter.unusedVariables false
set_option maxRecDepth 100000
set_option maxHeartbeats 16000000
namespace Go.Proofs.YtfkcpaahdlkcdaaGreat
open Go.RowKit
def put1V (p q : Nat) : Value := .func (.func 232) #[] #[.pointer (some ⟨p, 0, none⟩), .pointer (some ⟨q, 0, none⟩)]
theorem kdo_put {s : Nat} {k : KS} {G : Nat → Prop} {w : World} (h : KAt s k G w) (hn : k.lo.n ≤ 4096) (hn2 : k.n ≤ 4096) (i : Nat) (hi : i < 512) (x : Ck) (hx : Foot (SliceR 1 (.slice (some ⟨x.b, 0, none⟩) x.bs.length x.c) x.bs.length (u8s x.bs)) w (fun j => j = x.b)) (hxk : ¬ KF s k x.b) (p q : Nat)
    (hp : w.heap[p]? = some (.cells #[.slice (some ⟨x.b, 0, none⟩) x.bs.length x.c] 23 (0, 0))) (hq : w.heap[q]? = some (.cells #[.int .i64 i] 3 (0, 0))) :
    Calls Tryz.prog 187 #[.pointer (some ⟨s, 0, none⟩), put1V p q] w fun e w' => (∃ v, e = .returned v) ∧ ∃ A c, KAt s ((k.put i x).step A c) (fun j => G j ∨ j = x.b) w' ∧ Keep (KF s k) w w' ∧ ∀ j, (Value.slice A (k.lo.n + 1) c).ownBlock = some j → (Value.slice k.lo.A k.lo.n k.lo.c).ownBlock = some j ∨ w.heap.size ≤ j := by
 have H := LH h
 have HX := LH hx
 have HXK := LH hxk
 have HP := LH hp
 have HQ := LH hq
 unfold put1V
 clear h hx hxk hp hq
 go_enter Tryz.func187, Tryz.ntmps187
 go_wp2_with fail
 refine (kput1_calls H.out hn2 i hi x HX.out HXK.out p q HP.out HQ.out).mono ?_
 rintro e w1 ⟨⟨v, rfl⟩, h1, hk⟩
 have HK := LH hk
 have H1 := LH h1
 clear hk h1
 obtain ⟨c0, c1, c2, c3, c4, cf⟩ := H1.out.cells
 have hlo : (k.put i x).lo = k.lo := rfl
 rw [hlo] at c4
 clear hlo
 obtain ⟨fs, hr⟩ := H1.out.row
 have HR := LH hr
 clear hr
 go_wp2_with (at_builtin; refine wpList_app _ rfl _ _ 181 181 rfl 0 194 .nilFunc 1 8 u_steps info_step rfl (.slice k.lo.A k.lo.n k.lo.c) k.lo.n fs rfl (.slice (some ⟨w1.heap.size, 0, none⟩) 1 1) 1 [put1V p q] rfl ?_ (by exact own_keep HR.out ((Keep.refl NoB w1).alloc _) (fun _ _ h => h)) (by exact Src.ofSlice _ u_steps ⟨w1.heap.size, 0, none⟩ 1 1 _ rfl (World.news_of_block (cs := #[put1V p q]) (t := 194) (fr := (0, 0)) (heap_alloc_new w1 _)) (by simp [Value.oneCell', put1V])) (by simp only [maxLen]; omega) (by omega) (by exact Nat.zero_le _); intro v2 w2 hap; refine Hid.out ?_)
 refine LH ?_
 obtain ⟨A2, c2', rfl, _⟩ := own_slice hap.own
 have hg := (Keep.refl NoB w1).alloc (.cells #[put1V p q] 194)
 have hst := (H1.out.grow hg).stepped hap
 have hof : ∀ j, (Value.slice A2 (k.lo.n + 1) c2').ownBlock = some j → (Value.slice k.lo.A k.lo.n k.lo.c).ownBlock = some j ∨ w.heap.size ≤ j := fun j hj => (of_append hap j hj).imp id (fun e => by have := HK.out.size; simp at e; omega)
 have hkk := (HK.out.mono (T := KF s k) (fun _ h => .inr (.inl h))).trans ((hg.mono (T := KF s k) (fun _ h => h.elim)).trans hst.2 (fun j hj => .inl (hj.elim .inl (fun h => .inr (.inr h))))) (fun j hj => .inl hj)
 have HST := LH hst.1
 have HKK := LH hkk
 have HOF := LH hof
 have hcw : w2.cell? ⟨s, 4, none⟩ = some (.slice k.lo.A k.lo.n k.lo.c) ∧ ∀ o, w2.frozen? ⟨s, o, none⟩ = false := by
  have hh : w2.heap[s]? = _ := (((Keep.refl _ _).grown hap.grew (fun j hj => .inl hj) : Keep (fun j => (Value.slice k.lo.A k.lo.n k.lo.c).ownBlock = some j) _ _).block s (H1.out.grow hg).lt H1.out.so).trans (H1.out.grow hg).cell
  exact ⟨World.news_of_block hh 4 _ rfl, fun o => frozen0 o hh⟩
 clear hst hkk hof hap hg c0 c1 c2 c3 c4 cf
 obtain ⟨c4, cf⟩ := hcw
 go_wp2
 go_end0
 exact ⟨⟨_, rfl⟩, A2, c2', HST.out, HKK.out, HOF.out⟩
theorem kput_calls {s : Nat} {k : KS} {G : Nat → Prop} {w : World} (h : KAt s k G w) (hn : k.lo.n ≤ 4096) (hn2 : k.n ≤ 4096) (i : Nat) (hi : i < 512) (A : Option Addr) (l : List Int) (c : Nat) (hl : l.length ≤ 64) (h0 : 0 < l.length) (hs : SliceR 1 (.slice A l.length c) l.length (u8s l) w) :
    Calls Tryz.prog 182 #[.pointer (some ⟨s, 0, none⟩), .int .i64 i, .slice A l.length c] w fun e w' => e = .returned (.bool true) ∧ ∃ x A' c', x.bs = l ∧ KAt s ((k.put i x).step A' c') (fun j => G j ∨ j = x.b) w' ∧ Keep (KF s k) w w' ∧ w.heap.size ≤ x.b ∧ ∀ j, (Value.slice A' (k.lo.n + 1) c').ownBlock = some j → (Value.slice k.lo.A k.lo.n k.lo.c).ownBlock = some j ∨ w.heap.size ≤ j := by
 have hg0 := ((Keep.refl NoB w).alloc (.cells #[.int .i64 i] 3)).alloc (.cells #[.slice A l.length c] 23)
 have hz1 := Grow.heap ((Keep.refl NoB _).alloc (.cells #[.slice A l.length c] 23)) (heap_alloc_new w (.cells #[.int .i64 i] 3))
 have hz2 := heap_alloc_new (w.alloc (.cells #[.int .i64 i] 3)) (.cells #[.slice A l.length c] 23)
 have hsz1 : (w.alloc (.cells #[.int .i64 i] 3)).heap.size = w.heap.size + 1 := by simp
 rw [hsz1] at hz2
 have H := LH (h.grow hg0)
 have HS := LH (hs.grow hg0)
 have HG := LH hg0
 have HZ1 := LH hz1
 have HZ2 := LH hz2
 have hsm := h.small
 have HSM := LH hsm
 have HGM : Hid (∀ j, G j → j < w.heap.size) := LH h.ro.1
 have hl0 : (64 < (l.length : Int)) = False := by simp; omega
 have hi1 : ((i : Int) < 0) = False := by simp
 have hi2 : ((512 : Int) ≤ i) = False := by simp; omega
 clear h hs hg0 hz1 hz2 hsm
 go_enter Tryz.func182, Tryz.ntmps182
 have y1 : ((w.alloc (.cells #[.int .i64 i] 3)).alloc (.cells #[.slice A l.length c] 23)).cell? ⟨w.heap.size, 0, none⟩ = _ := World.news_of_block HZ1.out 0 _ rfl
 have y2 : ((w.alloc (.cells #[.int .i64 i] 3)).alloc (.cells #[.slice A l.length c] 23)).cell? ⟨w.heap.size + 1, 0, none⟩ = _ := World.news_of_block HZ2.out 0 _ rfl
 go_wp2_with fail
 refine (bclone_calls _ l _ HS.out (by omega)).mono ?_
 rintro e w2 ⟨A2, c2', rfl, ho, hg⟩
 obtain ⟨B, rfl, hB⟩ : ∃ B, A2 = some ⟨B, 0, none⟩ ∧ w.heap.size + 2 ≤ B := by
  obtain ⟨A3, c3, e3, _, h3, h4⟩ := own_slice ho
  cases e3
  rcases A2 with _ | ad
  ·exact absurd (h4 rfl).1 (by omega)
  ·refine ⟨ad.block, h3 ad.block rfl, ?_⟩
   have := (ho.lt ad.block rfl).1
   simp at this
   omega
 replace HZ1 := LH (Grow.heap hg HZ1.out)
 replace HZ2 := LH (Grow.heap hg HZ2.out)
 replace H := LH (H.out.grow hg)
 replace HG := LH (HG.out.grow hg)
 have HO := LH ho
 have y3 : w2.cell? ⟨w.heap.size, 0, none⟩ = _ := World.news_of_block HZ1.out 0 _ rfl
 have y4 : w2.cell? ⟨w.heap.size + 1, 0, none⟩ = _ := World.news_of_block HZ2.out 0 _ rfl
 have y5 : ∀ o, w2.frozen? ⟨w.heap.size + 1, o, none⟩ = false := fun o => frozen0 o HZ2.out
 clear y1 y2 hg ho
 go_wp2_with fail
 have hsz2 := HG.out.size
 have hset := (Keep.refl (fun j => j = w.heap.size + 1) w2).setCell (p := ⟨w.heap.size + 1, 0, none⟩) (.inl rfl) (.slice (some ⟨B, 0, none⟩) l.length c2')
 have hsm : ∀ j, KF s k j → j ≠ w.heap.size + 1 := fun j hj e => by have := HSM.out j hj; omega
 have H3 := LH (H.out.keep hset (fun j hj e => hsm j hj e) (fun j hj e => by have := HGM.out j hj; omega))
 refine (kdo_put H3.out hn hn2 i hi ⟨B, c2', l⟩ ?_ ?_ (w.heap.size + 1) w.heap.size ?_ ?_).mono ?_
 ·exact ((Foot.of_own HO.out).keep hset (fun j hj e => by have hj2 : B = j := Option.some.inj hj; omega)).mono (fun j hj => by have := HO.out.lt B rfl; rw [hj]; simpa using this.2) (fun j hj => by cases hj; rfl)
 ·exact fun hh => by have := HSM.out _ hh; simp only at this; omega
 ·exact set_cells HZ2.out 0 _
 ·exact (hset.block _ (by have := (gE HZ1.out).1; exact this) (by simp)).trans HZ1.out
 rintro e w5 ⟨⟨v, rfl⟩, A5, c5, h5, hk5, hof⟩
 have HN := LH h5
 have HF := LH ((((HG.out.mono (T := fun j => j = w.heap.size + 1) (fun _ h => h.elim)).trans hset (fun j hj => .inl hj)).new (fun i e => by rw [e]; omega)).mono (T := KF s k) (fun _ h => h.elim) |>.trans hk5 (fun j hj => .inl hj))
 have HOF : Hid (∀ j, (Value.slice A5 (k.lo.n + 1) c5).ownBlock = some j → (Value.slice k.lo.A k.lo.n k.lo.c).ownBlock = some j ∨ w.heap.size ≤ j) := LH (fun j hj => (hof j hj).imp id (fun h => by have := hset.size; omega))
 clear h5 hk5 hof hset hsm y3 y4 y5
 go_wp2
 go_ret
 exact ⟨rfl, ⟨B, c2', l⟩, A5, c5, rfl, HN.out, HF.out, by show w.heap.size ≤ B; omega, HOF.out⟩
theorem tdec_nil (w : World) : Calls Tryz.prog 125 #[.slice none 0 0] w fun e w' => e = .returned (.tuple #[.agg #[.int .u64 0, .slice none 0 0, .int .u32 0, .slice none 0 0], .int .u16 10]) ∧ Grow w w' := by
 have HG := LH ((Keep.refl NoB w).alloc (.cells #[.int .u64 0, .slice none 0 0, .int .u32 0, .slice none 0 0] 104))
 go_enter Tryz.func125, Tryz.ntmps125
 go_wp2
 have HC := heap_alloc_new w (.cells #[.int .u64 0, .slice none 0 0, .int .u32 0, .slice none 0 0] 104)
 have z0 : (w.alloc (.cells #[.int .u64 0, .slice none 0 0, .int .u32 0, .slice none 0 0] 104)).cell? ⟨w.heap.size, 0, none⟩ = _ := World.news_of_block HC 0 _ rfl
 have z1 : (w.alloc (.cells #[.int .u64 0, .slice none 0 0, .int .u32 0, .slice none 0 0] 104)).cell? ⟨w.heap.size, 1, none⟩ = _ := World.news_of_block HC 1 _ rfl
 have z2 : (w.alloc (.cells #[.int .u64 0, .slice none 0 0, .int .u32 0, .slice none 0 0] 104)).cell? ⟨w.heap.size, 2, none⟩ = _ := World.news_of_block HC 2 _ rfl
 have z3 : (w.alloc (.cells #[.int .u64 0, .slice none 0 0, .int .u32 0, .slice none 0 0] 104)).cell? ⟨w.heap.size, 3, none⟩ = _ := World.news_of_block HC 3 _ rfl
 refine bodyPost_ret (v := .tuple #[.agg #[.int .u64 0, .slice none 0 0, .int .u32 0, .slice none 0 0], .int .u16 10]) ?_ rfl ⟨rfl, HG.out⟩
 rw [results_cell_tmp rfl]; go_simp
theorem ktoken_nil {s : Nat} {k : KS} {G : Nat → Prop} {w : World} (h : KAt s k G w) (hn : k.nt = ⟨none, 0, 0⟩) : Calls Tryz.prog 52 #[.pointer (some ⟨s, 0, none⟩)] w fun e w' => e = .returned (.tuple #[.agg #[.int .u64 0, .slice none 0 0, .int .u32 0, .slice none 0 0], .bool false]) ∧ Grow w w' := by
 have HG := LH ((Keep.refl NoB w).alloc (.cells #[.int .u64 0, .slice none 0 0, .int .u32 0, .slice none 0 0] 104))
 obtain ⟨c0, c1, c2, c3, c4, cf⟩ := (h.grow HG.out).cells
 rw [hn] at c3
 clear h hn
 go_enter Tryz.func52, Tryz.ntmps52
 go_wp2_with fail
 refine (tdec_nil _).mono ?_
 rintro e w2 ⟨rfl, hg⟩
 have HB := LH (Grow.heap hg (heap_alloc_new w (.cells #[.int .u64 0, .slice none 0 0, .int .u32 0, .slice none 0 0] 104)))
 have HG2 := LH (HG.out.grow hg)
 clear hg c0 c1 c2 c3 c4 cf
 have HG3 := LH ((Keep.refl NoB w2).alloc (.cells #[.int .u64 0, .slice none 0 0, .int .u32 0, .slice none 0 0] 104))
 have HN := LH (heap_alloc_new w2 (.cells #[.int .u64 0, .slice none 0 0, .int .u32 0, .slice none 0 0] 104))
 obtain ⟨z0, z1, z2, z3, zf⟩ := cells4 (Grow.heap HG3.out HB.out)
 obtain ⟨y0, y1, y2, y3, yf⟩ := cells4 HN.out
 have HS := LH (stored4 (.int .u64 0) (.slice none 0 0) (.int .u32 0) (.slice none 0 0) (HG2.out.grow HG3.out) (by simp) (Grow.heap HG3.out HB.out))
 clear HG3
 go_wp2
 obtain ⟨r0, r1, r2, r3, rf⟩ := cells4 HS.out.1
 refine bodyPost_ret (v := .tuple #[.agg #[.int .u64 0, .slice none 0 0, .int .u32 0, .slice none 0 0], .bool false]) ?_ rfl ⟨rfl, HS.out.2⟩
 rw [results_cell_tmp rfl]; go_simp
end Go.Proofs.YtfkcpaahdlkcdaaGreat
namespace Go.Proofs.YtfkcpaahdlkcdaaGreat
open Go.RowKit
section
variable {P : Program} {ops : Array Oper} {Q : Exit → Act → World → Prop} {ds : List Nat} {S : Nat → Prop} {R : Act → World → Prop} {acts reads rest : List Nat} {a : Act} {w : World} {i : Nat} {o : Oper}
theorem run_storeVar_part (w : World) (g off : Nat) (t ty : TypeId) (old cells new : Array Value) (hg : w.heap[g]? = some (.cells old t (0, 0))) (hi : (P.info? ty).map (·.size) = some cells.size)
    (ho : off + cells.size ≤ old.size) (hnew : (old.toList.take off ++ cells.toList ++ old.toList.drop (off + cells.size)).toArray = new) (h1 : cells.all (·.oneCell') = true) :
    (storeVar ty ⟨g, off, none⟩ (.agg cells)).run P w = .ok () (w.setRow g new) := by
 have := run_storeCells_at P g off t cells.toList 0 old w hg (by simpa using ho) (fun v hv => (Array.all_eq_true_iff_forall_mem.1 h1) v (by simpa using hv))
 simp only [Nat.add_zero, Array.length_toList, hnew] at this
 cases hq : P.info? ty with
 | none => simp [hq] at hi
 | some i =>
  have hs : cells.size = i.size := by simp [hq] at hi; omega
  simp [storeVar, sizeOf, typeInfo, hq, Value.cells, hs, this]
theorem ord_part (hl : ops.toList[i]? = some o) (ha : acts.contains i = true) (hN : o.dst = none) (hg : o.guard = none) (ty : TypeId) (x y : Operand) (hop : o.op = Op.store ty x y) (g off : Nat) (cells : Array Value) (hx : a.eval x = .pointer (some ⟨g, off, none⟩)) (hy : a.eval y = .agg cells)
    (t : TypeId) (old new : Array Value) (hgc : w.heap[g]? = some (.cells old t (0, 0))) (hi : (P.info? ty).map (·.size) = some cells.size) (ho : off + cells.size ≤ old.size) (hnew : (old.toList.take off ++ cells.toList ++ old.toList.drop (off + cells.size)).toArray = new) (h1 : cells.all (·.oneCell') = true)
    (hk : i ∉ ds → Keep S w (w.setRow g new)) (h : wpOrdC S P ops Q R acts reads ds rest a (w.setRow g new)) : wpOrdC S P ops Q R acts reads ds (i :: rest) a w := by
 refine ord_act hl ha (fun K hK => ?_)
 rw [if_pos (by simp [Region.wanted, hg])]
 unfold Oper.wp execOp
 simp only [hop, hx, hy, Instr.storeAt, Instr.sureAddr, Sem.run_bind, Sem.run_pure, Result.andThen_ok, run_storeVar_part w g off t ty old cells new hgc hi ho hnew h1]
 have hp := hK _ _ ⟨hk, h⟩
 rw [← show a.put o.dst undef = a by rw [hN]; rfl] at hp
 exact hp
end
def RC.begin (d : RC) (p : Addr) (s : Int) (m : Nat) : RC := { d with part := some p, phase := 1, session := s, sum := m }
theorem rreject_calls {g : Nat} {d : RC} {w : World} (h : RCell g d w) (e : Nat) (he : e ≤ 100) :
    Calls Tryz.prog 181 #[.pointer (some ⟨g, 0, none⟩), .int .u16 e] w fun ee w' => ∃ b, ee = .returned (.slice (some ⟨b, 0, none⟩) 1 1) ∧ OneG w' b 5 d.session e 0 d.sum ∧ w.heap.size ≤ b ∧ RCell g (d.fail e) w' ∧ Keep (fun k => k = g) w w' := by
 have H := LH h
 clear h
 go_enter Tryz.func181, Tryz.ntmps181
 go_wp2_with fail
 refine (rfail_calls H.out e).mono ?_
 rintro ee w1 ⟨⟨v, rfl⟩, hr, hk⟩
 have HR := LH hr
 have HK := LH hk
 clear hr hk
 have hcv : (e : Int) ≤ 65535 := by omega
 go_wp2_with fail
 refine (rgram_calls HR.out 5 e).mono ?_
 rintro ee w2 ⟨rfl, hg⟩
 replace HK := LH (HK.out.grow hg)
 replace HR := LH (HR.out.grow hg)
 clear hg
 go_wp2
 go_ret
 have hsz := HK.out.size
 refine ⟨_, rfl, heap_alloc_new w2 _, hsz, HR.out.grow ((Keep.refl NoB w2).alloc _), HK.out.grow ((Keep.refl NoB w2).alloc _)⟩
theorem rbegin_calls {g : Nat} {d : RC} {w : World} (hc : RCell g d w) (session : Int) (sum : Nat) (h01 : 0 ≤ session ∧ session ≤ 18446744073709551615) (hsum : sum < 4294967296) (A : Option Addr) (c : Nat) (l : List Int) (hf : fitsB l = true) (n : Nat) (hn : l.sum = (n : Int)) (h : SliceR 1 (.slice A l.length c) l.length (ints l) w) :
    Calls Tryz.prog 104 #[.pointer (some ⟨g, 0, none⟩), .agg #[.int .u64 session, .slice A l.length c, .int .u32 (sum : Nat)]] w fun e w' => (∃ v, e = .returned v) ∧ ∃ b p G, RCell g (d.begin ⟨b, 0, none⟩ session sum) w' ∧ Keep (fun k => k = g) w w' ∧ PAt b p ⟨session, l, sum, List.replicate n 0, makeB (chunksN l)⟩ G w' ∧ w.heap.size ≤ b ∧ w.heap.size ≤ p.wb ∧ ∀ k, G k → w.heap.size ≤ k := by
 have hg0 := (Keep.refl NoB w).alloc (.cells #[.int .u64 session, .slice A l.length c, .int .u32 (sum : Nat)] 40)
 have HN := LH (pnew_calls session sum h01 hsum A c l hf n hn _ (h.grow hg0))
 have HZ := LH (heap_alloc_new w (.cells #[.int .u64 session, .slice A l.length c, .int .u32 (sum : Nat)] 40))
 have H := LH (hc.grow hg0)
 have hlt := hc.lt
 have HG := LH hg0
 clear hc hg0 h hf h01 hsum hn
 go_enter Tryz.func104, Tryz.ntmps104
 obtain ⟨z0, z1, z2, zf⟩ := cells3 HZ.out
 go_wp2_with fail
 refine HN.out.mono ?_
 rintro e w1 ⟨b, p, G, rfl, hg, hP, hb, hpw, hG⟩
 replace H := LH (H.out.grow hg)
 replace HZ := LH (Grow.heap hg HZ.out)
 have hsz := HG.out.size
 replace HG := LH (HG.out.grow hg)
 have HP := LH hP
 have HB := LH (show w.heap.size ≤ b ∧ w.heap.size ≤ p.wb ∧ ∀ k, G k → w.heap.size ≤ k from ⟨Nat.le_trans hsz hb, Nat.le_trans hsz hpw, fun k hk => Nat.le_trans hsz (hG k hk)⟩)
 clear z0 z1 z2 zf HN hg hP hb hpw hG hsz
 obtain ⟨c0, c1, c2, c3, c4, c5, c6, c7, c8, c9, c10, c11, c12, c13, c14, c15, c16, c17, c18, c19, c20, cf⟩ := cells21 H.out
 have h1 := H.out.put (d' := { d with part := some ⟨b, 0, none⟩ }) 0 (.pointer (some ⟨b, 0, none⟩)) rfl
 have hgb : g ≠ w.heap.size := by omega
 go_wp2
 obtain ⟨w2, hw2⟩ : ∃ w2, w1.setCell ⟨g, 0, none⟩ (.pointer (some ⟨b, 0, none⟩)) = w2 := ⟨_, rfl⟩
 rw [hw2] at h1 ⊢
 have HZ2 := LH ((h1.2.block _ (gE HZ.out).1 (fun e => hgb e.symm)).trans HZ.out)
 have H1 := LH h1
 clear h1 hw2 c0 c1 c2 c3 c4 c5 c6 c7 c8 c9 c10 c11 c12 c13 c14 c15 c16 c17 c18 c19 c20 cf
 obtain ⟨c0, c1, c2, c3, c4, c5, c6, c7, c8, c9, c10, c11, c12, c13, c14, c15, c16, c17, c18, c19, c20, cf⟩ := cells21 H1.out.1
 obtain ⟨z0, z1, z2, zf⟩ := cells3 HZ2.out
 have HE := LH (show ¬ w.heap.size = g from fun e => hgb e.symm)
 refine region_ordS (fun k => k = g) [0, 1, 2, 3, 4, 5, 6, 7, 8, 9, 10, 11, 12, 13, 14, 15] [9, 12, 15] [4, 6] [] rfl (by kernel_rfl) ?_
 iterate 4
  refine ord_pure rfl rfl rfl rfl rfl (fun _ _ _ _ h => h) ?_ ?_ ?_ ?_ ?_
  rotate_left 2
  ·intro w'; go_simp; with_reducible rfl
  ·simp only [Act.put, pB, pC, pD]; rfl
 refine ord_read rfl rfl rfl rfl rfl (fun _ _ _ _ h => h) ?_ ?_ ?_ ?_ ?_
 rotate_left 2
 ·intro w' hg; have q := hg.cell z0 HE.out; go_simp; with_reducible rfl
 ·simp only [Act.put, pB, pC, pD]; rfl
 refine ord_pure rfl rfl rfl rfl rfl (fun _ _ _ _ h => h) ?_ ?_ ?_ ?_ ?_
 rotate_left 2
 ·intro w'; go_simp; with_reducible rfl
 ·simp only [Act.put, pB, pC, pD]; rfl
 refine ord_read rfl rfl rfl rfl rfl (fun _ _ _ _ h => h) ?_ ?_ ?_ ?_ ?_
 rotate_left 2
 ·intro w' hg; have q := hg.cell z2 HE.out; go_simp; with_reducible rfl
 ·simp only [Act.put, pB, pC, pD]; rfl
 iterate 2
  refine ord_pure rfl rfl rfl rfl rfl (fun _ _ _ _ h => h) ?_ ?_ ?_ ?_ ?_
  rotate_left 2
  ·intro w'; go_simp; with_reducible rfl
  ·simp only [Act.put, pB, pC, pD]; rfl
 refine ord_put rfl rfl rfl rfl ?_ ?_ ?_ ?_
 rotate_left
 ·go_simp; with_reducible rfl
 ·exact fun _ => keep_put _ _ _ _
 iterate 2
  refine ord_pure rfl rfl rfl rfl rfl (fun _ _ _ _ h => h) ?_ ?_ ?_ ?_ ?_
  rotate_left 2
  ·intro w'; go_simp; with_reducible rfl
  ·simp only [Act.put, pB, pC, pD]; rfl
 refine ord_put rfl rfl rfl rfl ?_ ?_ ?_ ?_
 rotate_left
 ·go_simp; with_reducible rfl
 ·exact fun _ => keep_put _ _ _ _
 iterate 2
  refine ord_pure rfl rfl rfl rfl rfl (fun _ _ _ _ h => h) ?_ ?_ ?_ ?_ ?_
  rotate_left 2
  ·intro w'; go_simp; with_reducible rfl
  ·simp only [Act.put, pB, pC, pD]; rfl
 refine ord_put rfl rfl rfl rfl ?_ ?_ ?_ ?_
 rotate_left
 ·go_simp; with_reducible rfl
 ·exact fun _ => keep_put _ _ _ _
 refine ord_nil ?_
 have h3 := (show RCell g _ w2.drew from H1.out.1).put (d' := { d with part := some ⟨b, 0, none⟩, phase := 1 }) 6 (.int .i64 1) rfl
 have h4 := h3.1.put (d' := { d with part := some ⟨b, 0, none⟩, phase := 1, session := session }) 8 (.int .u64 session) rfl
 have h5 := h4.1.put (d' := d.begin ⟨b, 0, none⟩ session sum) 9 (.int .u32 (sum : Nat)) rfl
 have hk1 := ((H1.out.2.drew.trans h3.2 (fun _ h => .inl h)).trans h4.2 (fun _ h => .inl h)).trans h5.2 (fun _ h => .inl h)
 have hk := (HG.out.mono (T := fun k => k = g) (fun _ h => h.elim)).trans hk1 (fun _ h => .inl h)
 have hP := HP.out.keep hk1 (by have := HB.out.1; omega) (by have := HB.out.2.1; omega) (fun j hj e => by have := HB.out.2.2 j hj; omega)
 have HN := LH (And.intro h5.1 (And.intro hk hP))
 clear h3 h4 h5 hk1 hk hP c0 c1 c2 c3 c4 c5 c6 c7 c8 c9 c10 c11 c12 c13 c14 c15 c16 c17 c18 c19 c20 cf
 go_wp2
 go_end0
 exact ⟨⟨_, rfl⟩, b, p, G, HN.out.1, HN.out.2.1, HN.out.2.2, HB.out⟩
end Go.Proofs.YtfkcpaahdlkcdaaGreat
namespace Go.Proofs.YtfkcpaahdlkcdaaGreat
open Go.RowKit
def RC.idle (win back retry quota : Int) (st : Nat) : RC := ⟨none, win, back, retry, quota, st, 0, 0, 0, 0, 0, false, false, false, false, ⟨none, 0, 0⟩, ⟨none, 0, 0⟩, ⟨none, 0, 0⟩, ⟨none, 0, 0⟩, false, false⟩
theorem between_0 (w : World) (m : Int) :
    Calls Tryz.prog 130 #[.int .i64 0, .int .i64 m] w fun e w' => e = .returned (.bool false) ∧ w = w' := by
 go_enter Tryz.func130, Tryz.ntmps130
 go_wp2
 go_ret
 exact ⟨rfl, rfl⟩
theorem sright_0 (w : World) :
    Calls Tryz.prog 59 #[.agg #[.int .i64 0, .int .i64 0, .int .i64 0, .int .i64 0]] w fun e w' => e = .returned (.bool false) ∧ Grow w w' := by
 have HG := LH ((Keep.refl NoB w).alloc (.cells #[.int .i64 0, .int .i64 0, .int .i64 0, .int .i64 0] 26))
 go_enter Tryz.func59, Tryz.ntmps59
 go_wp2_with fail
 refine (between_0 _ 64).mono ?_
 rintro e w1 ⟨rfl, rfl⟩
 go_wp2
 go_ret
 exact ⟨rfl, HG.out⟩
theorem rnew_bad (st : Nat) (w : World) :
    Calls Tryz.prog 35 #[.agg #[.int .i64 0, .int .i64 0, .int .i64 0, .int .i64 0], .pointer (some ⟨st, 0, none⟩)] w fun e w' => e = .returned (.tuple #[.pointer none, .int .u16 1]) ∧ Grow w w' := by
 have HG := LH ((Keep.refl NoB w).alloc (.cells #[.int .i64 0, .int .i64 0, .int .i64 0, .int .i64 0] 26))
 obtain ⟨z0, z1, z2, z3, zf⟩ := cells4 (heap_alloc_new w (.cells #[.int .i64 0, .int .i64 0, .int .i64 0, .int .i64 0] 26))
 go_enter Tryz.func35, Tryz.ntmps35
 go_wp2_with fail
 refine (sright_0 _).mono ?_
 rintro e w1 ⟨rfl, hg⟩
 replace HG := LH (HG.out.grow hg)
 clear hg
 go_wp2
 go_ret2
 exact ⟨rfl, HG.out⟩
theorem rnew_calls {win back retry quota : Int} (hc : OkC win back retry quota) {s : Nat} {k : KS} {G : Nat → Prop} {w : World} (h : KAt s k G w) (hn : k.nt = ⟨none, 0, 0⟩) :
    Calls Tryz.prog 35 #[.agg #[.int .i64 win, .int .i64 back, .int .i64 retry, .int .i64 quota], .pointer (some ⟨s, 0, none⟩)] w fun e w' => ∃ g, e = .returned (.tuple #[.pointer (some ⟨g, 0, none⟩), .int .u16 0]) ∧ RCell g (RC.idle win back retry quota s) w' ∧ Grow w w' ∧ w.heap.size ≤ g := by
 have hg0 := (Keep.refl NoB w).alloc (.cells #[.int .i64 win, .int .i64 back, .int .i64 retry, .int .i64 quota] 26)
 have HZ := LH (heap_alloc_new w (.cells #[.int .i64 win, .int .i64 back, .int .i64 retry, .int .i64 quota] 26))
 have HC := LH (sright_calls win back retry quota hc (w.alloc (.cells #[.int .i64 win, .int .i64 back, .int .i64 retry, .int .i64 quota] 26)))
 have HG := LH hg0
 have H := LH (h.grow hg0)
 have HNT := LH hn
 clear hc hg0 h hn
 go_enter Tryz.func35, Tryz.ntmps35
 obtain ⟨z0, z1, z2, z3, zf⟩ := cells4 HZ.out
 go_wp2_with fail
 refine HC.out.mono ?_
 rintro e w1 ⟨rfl, hg⟩
 replace H := LH (H.out.grow hg)
 replace HG := LH (HG.out.grow hg)
 replace HZ := LH (Grow.heap hg HZ.out)
 clear hg HC z0 z1 z2 z3 zf
 obtain ⟨z0, z1, z2, z3, zf⟩ := cells4 HZ.out
 go_wp2_with fail
 have hR := heap_alloc_new w1 (.cells (RC.idle win back retry quota s).cs 173)
 have hgr := (Keep.refl NoB w1).alloc (.cells (RC.idle win back retry quota s).cs 173)
 refine (ktoken_nil (H.out.grow hgr) HNT.out).mono ?_
 rintro e w2 ⟨rfl, hg⟩
 have HN := LH (show RCell w1.heap.size (RC.idle win back retry quota s) w2 from Grow.heap hg hR)
 replace HG := LH ((HG.out.grow hgr).grow hg)
 have HSZ : Hid (w.heap.size ≤ w1.heap.size) := LH (by have := HZ.out; have := (gE this).1; omega)
 clear hR hgr hg z0 z1 z2 z3 zf
 have HG3 := LH ((Keep.refl NoB w2).alloc (.cells #[.int .u64 0, .slice none 0 0, .int .u32 0, .slice none 0 0] 104))
 go_wp2
 go_ret2
 exact ⟨_, rfl, HN.out.grow HG3.out, HG.out.grow HG3.out, HSZ.out⟩
theorem recvbytes_nil {g : Nat} {d : RC} {w : World} (h : RCell g d w) (hp : d.part = none) : Calls Tryz.prog 47 #[.pointer (some ⟨g, 0, none⟩)] w fun e w' => e = .returned (.int .i64 0) ∧ w = w' := by
 obtain ⟨c0, c1, c2, c3, c4, c5, c6, c7, c8, c9, c10, c11, c12, c13, c14, c15, c16, c17, c18, c19, c20, cf⟩ := cells21 h
 rw [hp] at c0
 clear h hp
 go_enter Tryz.func47, Tryz.ntmps47
 go_wp2_with fail
 refine (pbytes_nil w).mono ?_
 rintro e w1 ⟨rfl, rfl⟩
 go_wp2
 go_ret
 exact ⟨rfl, rfl⟩
theorem recvbytes_calls {g b : Nat} {rc : RC} {p : PP} {d : Par} {G : Nat → Prop} {w : World} (h : RCell g rc w) (hp : rc.part = some ⟨b, 0, none⟩) (hP : PAt b p d G w) : Calls Tryz.prog 47 #[.pointer (some ⟨g, 0, none⟩)] w fun e w' => e = .returned (.int .i64 (8 * d.sz.sum)) ∧ Grow w w' := by
 obtain ⟨c0, c1, c2, c3, c4, c5, c6, c7, c8, c9, c10, c11, c12, c13, c14, c15, c16, c17, c18, c19, c20, cf⟩ := cells21 h
 rw [hp] at c0
 have HP := LH hP
 clear h hp hP
 go_enter Tryz.func47, Tryz.ntmps47
 go_wp2_with fail
 refine (pbytes_calls HP.out).mono ?_
 rintro e w1 ⟨rfl, hg⟩
 have HG := LH hg
 clear hg
 go_wp2
 go_ret
 exact ⟨rfl, HG.out⟩
theorem rtick_idle {g : Nat} {d : RC} {w : World} (h : RCell g d w) (hp : d.phase = 0) (hcl : d.closed = false) : Calls Tryz.prog 51 #[.pointer (some ⟨g, 0, none⟩), .int .i64 0] w fun e w' => e = .returned (.slice none 0 0) ∧ w = w' := by
 obtain ⟨c0, c1, c2, c3, c4, c5, c6, c7, c8, c9, c10, c11, c12, c13, c14, c15, c16, c17, c18, c19, c20, cf⟩ := cells21 h
 rw [hp] at c6
 rw [hcl] at c20
 clear h hp hcl
 go_enter Tryz.func51, Tryz.ntmps51
 go_wp2
 go_ret
 exact ⟨rfl, rfl⟩
theorem rread_none {g : Nat} {d : RC} {w : World} (h : RCell g d w) (hp : d.phase ≠ 3) (hq : d.part = none) (A : Option Addr) (n c : Nat) (at_ : Int) : Calls Tryz.prog 41 #[.pointer (some ⟨g, 0, none⟩), .agg #[.slice A n c, .int .i64 at_]] w fun e w' => e = .returned (.tuple #[.agg #[.int .i64 0, .int .i64 0, .int .i64 0, .int .i64 0, .int .u64 0], .int .u16 30]) ∧ Grow w w' := by
 have hg := (((Keep.refl NoB w).alloc (.cells #[.slice A n c, .int .i64 at_] 83))).alloc (.cells #[.int .i64 0, .int .i64 0, .int .i64 0, .int .i64 0, .int .u64 0] 86)
 have hc := heap_alloc_new (w.alloc (.cells #[.slice A n c, .int .i64 at_] 83)) (.cells #[.int .i64 0, .int .i64 0, .int .i64 0, .int .i64 0, .int .u64 0] 86)
 have hsz : (w.alloc (.cells #[.slice A n c, .int .i64 at_] 83)).heap.size = w.heap.size + 1 := by simp
 rw [hsz] at hc
 obtain ⟨c0, c1, c2, c3, c4, c5, c6, c7, c8, c9, c10, c11, c12, c13, c14, c15, c16, c17, c18, c19, c20, cf⟩ := cells21 (h.grow hg)
 rw [hq] at c0
 have HG := LH hg
 have hpb : (d.phase == 3) = false := by simp [hp]
 clear h hp hq hg
 go_enter Tryz.func41, Tryz.ntmps41
 go_wp2
 (try simp only [Exit.inBlock, Exit.then])
 obtain ⟨z0, z1, z2, z3, z4, zf⟩ := cells5 hc
 refine bodyPost_ret (v := .tuple #[.agg #[.int .i64 0, .int .i64 0, .int .i64 0, .int .i64 0, .int .u64 0], .int .u16 30]) ?_ rfl ⟨rfl, HG.out⟩
 rw [results_cell_tmp rfl]; go_simp
theorem known18_true (w : World) : Calls Tryz.prog 34 #[] w fun e w' => e = .returned (.bool true) ∧ Grow w w' := by
 have hconf : OkC 1 1 1 0 := by constructor <;> omega
 go_enter Tryz.func34, Tryz.ntmps34
 go_wp2_with fail
 refine (knew_calls w).mono ?_
 rintro e w1 ⟨s, k, rfl, hg, hK, _, _, hnt, _⟩
 have HG := LH hg
 have HK := LH hK
 clear hg hK
 go_wp2_with fail
 refine (rnew_calls hconf HK.out hnt).mono ?_
 rintro e w2 ⟨g, rfl, hR, hg, _⟩
 have HR := LH hR
 replace HG := LH (HG.out.grow hg)
 clear hR hg hnt
 go_wp2_with fail
 refine (rread_none HR.out (by simp [RC.idle]) rfl none 0 0 0).mono ?_
 rintro e w3 ⟨rfl, hg⟩
 have hg3 := hg.alloc (.cells #[.int .i64 0, .int .i64 0, .int .i64 0, .int .i64 0, .int .u64 0] 86)
 replace HR := LH (HR.out.grow hg3)
 replace HG := LH (HG.out.grow hg3)
 clear hg hg3
 go_wp2_with fail
 refine (knew_calls _).mono ?_
 rintro e w4 ⟨s2, k2, rfl, hg, _⟩
 replace HR := LH (HR.out.grow hg)
 replace HG := LH (HG.out.grow hg)
 clear hg
 go_wp2_with fail
 refine (rnew_bad s2 _).mono ?_
 rintro e w5 ⟨rfl, hg⟩
 replace HR := LH (HR.out.grow hg)
 replace HG := LH (HG.out.grow hg)
 clear hg
 go_wp2_with fail
 refine (rtick_idle HR.out rfl rfl).mono ?_
 rintro e w6 ⟨rfl, rfl⟩
 go_wp2
 go_ret
 exact ⟨rfl, HG.out⟩
theorem OkP.few {d : Par} (h : OkP d) : chunksN d.sz ≤ 512 ∧ d.known.length ≤ 100000 := by
 have h1 := fits_parts h.fit
 have h2 := h.klen
 have h3 : chunksN d.sz ≤ 512 := by unfold chunksN; omega
 exact ⟨h3, by omega⟩
theorem rstatus_nil {g : Nat} {d : RC} {w : World} (h : RCell g d w) (hq : d.part = none) : Calls Tryz.prog 43 #[.pointer (some ⟨g, 0, none⟩)] w fun e w' => e = .returned (.agg #[.int .i64 d.phase, .int .u16 d.err, .int .i64 0, .int .i64 0]) ∧ Grow w w' := by
 have H := LH (h.grow ((Keep.refl NoB w).alloc (.cells #[.int .i64 0, .int .u16 0, .int .i64 0, .int .i64 0] 48)))
 have HG := LH ((Keep.refl NoB w).alloc (.cells #[.int .i64 0, .int .u16 0, .int .i64 0, .int .i64 0] 48))
 have HC := LH (heap_alloc_new w (.cells #[.int .i64 0, .int .u16 0, .int .i64 0, .int .i64 0] 48))
 have HQ := LH hq
 clear h hq
 go_enter Tryz.func43, Tryz.ntmps43
 go_wp2
 generalize w.alloc (.cells #[.int .i64 0, .int .u16 0, .int .i64 0, .int .i64 0] 48) = w1 at H HG HC ⊢
 obtain ⟨c0, c1, c2, c3, c4, c5, c6, c7, c8, c9, c10, c11, c12, c13, c14, c15, c16, c17, c18, c19, c20, cf⟩ := cells21 H.out
 refine region_ord [0, 1, 2, 3, 4, 5, 6, 7, 8, 9, 10] [9, 10] [3, 7] [10] rfl (by kernel_rfl) ?_
 iterate 3
  refine ord_pure rfl rfl rfl rfl rfl (fun _ _ _ _ h => h) ?_ ?_ ?_ ?_ ?_
  rotate_left 2
  ·intro w'; go_simp; with_reducible rfl
  ·simp only [Act.put, pB, pC, pD]; rfl
 refine ord_read rfl rfl rfl rfl rfl (fun _ _ _ _ h => h) ?_ ?_ ?_ ?_ ?_
 rotate_left 2
 ·intro w' hg; have q := hg.cell c6 (fun h => h); go_simp; with_reducible rfl
 ·simp only [Act.put, pB, pC, pD]; rfl
 iterate 3
  refine ord_pure rfl rfl rfl rfl rfl (fun _ _ _ _ h => h) ?_ ?_ ?_ ?_ ?_
  rotate_left 2
  ·intro w'; go_simp; with_reducible rfl
  ·simp only [Act.put, pB, pC, pD]; rfl
 refine ord_read rfl rfl rfl rfl rfl (fun _ _ _ _ h => h) ?_ ?_ ?_ ?_ ?_
 rotate_left 2
 ·intro w' hg; have q := hg.cell c7 (fun h => h); go_simp; with_reducible rfl
 ·simp only [Act.put, pB, pC, pD]; rfl
 refine ord_pure rfl rfl rfl rfl rfl (fun _ _ _ _ h => h) ?_ ?_ ?_ ?_ ?_
 rotate_left 2
 ·intro w'; go_simp; with_reducible rfl
 ·simp only [Act.put, pB, pC, pD]; rfl
 refine ord_new rfl rfl rfl rfl ?_ ?_ ?_ ?_ ?_ ?_
 rotate_left 3
 ·go_simp; first | with_reducible rfl | (constructor <;> with_reducible rfl)
 ·simp only [Act.put, pB, pC, pD]; rfl
 refine ord_put rfl rfl rfl rfl ?_ ?_ (fun h => absurd (by simp) h) ?_
 rotate_left
 ·go_simp; with_reducible rfl
 refine ord_nil ?_
 have hga := (Keep.refl NoB w1).drew.alloc (.cells #[.int .i64 0, .int .u16 0, .int .i64 0, .int .i64 0] 48)
 have hsz1 : w.heap.size < w1.heap.size := (gE HC.out).1
 have hga2 := ((Keep.refl NoB w1).alloc (.cells #[.int .i64 d.phase, .int .u16 d.err, .int .i64 0, .int .i64 0] 48)).drew
 have HS := LH (And.intro (show (w1.alloc (.cells #[.int .i64 d.phase, .int .u16 d.err, .int .i64 0, .int .i64 0] 48)).drew.heap[w1.heap.size]? = _ from heap_alloc_new w1 (.cells #[.int .i64 d.phase, .int .u16 d.err, .int .i64 0, .int .i64 0] 48)) hga2)
 obtain ⟨W2, hW2⟩ : ∃ W2, (w1.alloc (.cells #[.int .i64 d.phase, .int .u16 d.err, .int .i64 0, .int .i64 0] 48)).drew = W2 := ⟨_, rfl⟩
 rw [hW2] at HS ⊢
 replace H := LH (H.out.grow HS.out.2)
 replace HG := LH (HG.out.grow HS.out.2)
 replace HC := LH (Grow.heap HS.out.2 HC.out)
 obtain ⟨N, hN⟩ : ∃ N, w1.heap.size = N := ⟨_, rfl⟩
 replace HS := LH HS.out.1
 rw [hN] at HS hsz1 ⊢
 clear hga hga2 hW2 hN c0 c1 c2 c3 c4 c5 c6 c7 c8 c9 c10 c11 c12 c13 c14 c15 c16 c17 c18 c19 c20 cf
 obtain ⟨c0, c1, c2, c3, c4, c5, c6, c7, c8, c9, c10, c11, c12, c13, c14, c15, c16, c17, c18, c19, c20, cf⟩ := cells21 H.out
 rw [HQ.out] at c0
 obtain ⟨z0, z1, z2, z3, zf⟩ := cells4 HS.out
 obtain ⟨y0, y1, y2, y3, yf⟩ := cells4 HC.out
 have HR := LH (stored4 (.int .i64 d.phase) (.int .u16 d.err) (.int .i64 0) (.int .i64 0) HG.out (Nat.le_refl _) HC.out)
 go_wp2
 obtain ⟨r0, r1, r2, r3, rf⟩ := cells4 HR.out.1
 refine bodyPost_ret (v := .agg #[.int .i64 d.phase, .int .u16 d.err, .int .i64 0, .int .i64 0]) ?_ rfl ⟨rfl, HR.out.2⟩
 rw [results_cell1 rfl]; go_simp
theorem rstatus_calls {g b : Nat} {d : RC} {p : PP} {e : Par} {G : Nat → Prop} {w : World} (h : RCell g d w) (hq : d.part = some ⟨b, 0, none⟩) (hP : PAt b p e G w) : Calls Tryz.prog 43 #[.pointer (some ⟨g, 0, none⟩)] w fun ee w' => ee = .returned (.agg #[.int .i64 d.phase, .int .u16 d.err, .int .i64 (popB e.known : Nat), .int .i64 (chunksN e.sz : Nat)]) ∧ Grow w w' := by
 have H := LH (h.grow ((Keep.refl NoB w).alloc (.cells #[.int .i64 0, .int .u16 0, .int .i64 0, .int .i64 0] 48)))
 have HG := LH ((Keep.refl NoB w).alloc (.cells #[.int .i64 0, .int .u16 0, .int .i64 0, .int .i64 0] 48))
 have HC := LH (heap_alloc_new w (.cells #[.int .i64 0, .int .u16 0, .int .i64 0, .int .i64 0] 48))
 have HQ := LH hq
 have HP := LH (hP.grow HG.out)
 clear h hq hP
 go_enter Tryz.func43, Tryz.ntmps43
 go_wp2
 generalize w.alloc (.cells #[.int .i64 0, .int .u16 0, .int .i64 0, .int .i64 0] 48) = w1 at H HG HC HP ⊢
 obtain ⟨c0, c1, c2, c3, c4, c5, c6, c7, c8, c9, c10, c11, c12, c13, c14, c15, c16, c17, c18, c19, c20, cf⟩ := cells21 H.out
 refine region_ord [0, 1, 2, 3, 4, 5, 6, 7, 8, 9, 10] [9, 10] [3, 7] [10] rfl (by kernel_rfl) ?_
 iterate 3
  refine ord_pure rfl rfl rfl rfl rfl (fun _ _ _ _ h => h) ?_ ?_ ?_ ?_ ?_
  rotate_left 2
  ·intro w'; go_simp; with_reducible rfl
  ·simp only [Act.put, pB, pC, pD]; rfl
 refine ord_read rfl rfl rfl rfl rfl (fun _ _ _ _ h => h) ?_ ?_ ?_ ?_ ?_
 rotate_left 2
 ·intro w' hg; have q := hg.cell c6 (fun h => h); go_simp; with_reducible rfl
 ·simp only [Act.put, pB, pC, pD]; rfl
 iterate 3
  refine ord_pure rfl rfl rfl rfl rfl (fun _ _ _ _ h => h) ?_ ?_ ?_ ?_ ?_
  rotate_left 2
  ·intro w'; go_simp; with_reducible rfl
  ·simp only [Act.put, pB, pC, pD]; rfl
 refine ord_read rfl rfl rfl rfl rfl (fun _ _ _ _ h => h) ?_ ?_ ?_ ?_ ?_
 rotate_left 2
 ·intro w' hg; have q := hg.cell c7 (fun h => h); go_simp; with_reducible rfl
 ·simp only [Act.put, pB, pC, pD]; rfl
 refine ord_pure rfl rfl rfl rfl rfl (fun _ _ _ _ h => h) ?_ ?_ ?_ ?_ ?_
 rotate_left 2
 ·intro w'; go_simp; with_reducible rfl
 ·simp only [Act.put, pB, pC, pD]; rfl
 refine ord_new rfl rfl rfl rfl ?_ ?_ ?_ ?_ ?_ ?_
 rotate_left 3
 ·go_simp; first | with_reducible rfl | (constructor <;> with_reducible rfl)
 ·simp only [Act.put, pB, pC, pD]; rfl
 refine ord_put rfl rfl rfl rfl ?_ ?_ (fun h => absurd (by simp) h) ?_
 rotate_left
 ·go_simp; with_reducible rfl
 refine ord_nil ?_
 have hga := (Keep.refl NoB w1).drew.alloc (.cells #[.int .i64 0, .int .u16 0, .int .i64 0, .int .i64 0] 48)
 have hsz1 : w.heap.size < w1.heap.size := (gE HC.out).1
 have hga2 := ((Keep.refl NoB w1).alloc (.cells #[.int .i64 d.phase, .int .u16 d.err, .int .i64 0, .int .i64 0] 48)).drew
 have HS := LH (And.intro (show (w1.alloc (.cells #[.int .i64 d.phase, .int .u16 d.err, .int .i64 0, .int .i64 0] 48)).drew.heap[w1.heap.size]? = _ from heap_alloc_new w1 (.cells #[.int .i64 d.phase, .int .u16 d.err, .int .i64 0, .int .i64 0] 48)) hga2)
 obtain ⟨W2, hW2⟩ : ∃ W2, (w1.alloc (.cells #[.int .i64 d.phase, .int .u16 d.err, .int .i64 0, .int .i64 0] 48)).drew = W2 := ⟨_, rfl⟩
 rw [hW2] at HS ⊢
 replace H := LH (H.out.grow HS.out.2)
 replace HP := LH (HP.out.grow HS.out.2)
 replace HG := LH (HG.out.grow HS.out.2)
 replace HC := LH (Grow.heap HS.out.2 HC.out)
 obtain ⟨N, hN⟩ : ∃ N, w1.heap.size = N := ⟨_, rfl⟩
 replace HS := LH HS.out.1
 rw [hN] at HS hsz1 ⊢
 clear hga hga2 hW2 hN c0 c1 c2 c3 c4 c5 c6 c7 c8 c9 c10 c11 c12 c13 c14 c15 c16 c17 c18 c19 c20 cf
 obtain ⟨c0, c1, c2, c3, c4, c5, c6, c7, c8, c9, c10, c11, c12, c13, c14, c15, c16, c17, c18, c19, c20, cf⟩ := cells21 H.out
 rw [HQ.out] at c0
 go_wp2
 refine region_ord [0, 1, 2, 3, 6, 7, 8, 9, 4, 5, 12, 10, 11, 13, 14, 15] [4, 5, 10, 11, 13, 15] [3, 9] [13, 15] rfl (by kernel_rfl) ?_
 iterate 2
  iterate 3
   refine ord_pure rfl rfl rfl rfl rfl (fun _ _ _ _ h => h) ?_ ?_ ?_ ?_ ?_
   rotate_left 2
   ·intro w'; go_simp; with_reducible rfl
   ·simp only [Act.put, pB, pC, pD]; rfl
  refine ord_read rfl rfl rfl rfl rfl (fun _ _ _ _ h => h) ?_ ?_ ?_ ?_ ?_
  rotate_left 2
  ·intro w' hg; have q := hg.cell c0 (fun h => h); go_simp; with_reducible rfl
  ·simp only [Act.put, pB, pC, pD]; rfl
 refine ord_call rfl rfl rfl rfl rfl Tryz.func117 rfl rfl [.pointer (some ⟨b, 0, none⟩)] rfl ?_
 refine (pknown_calls (HP.out.grow (Keep.refl NoB W2).drew)).mono ?_
 rintro ee w3 ⟨A3, c3', rfl, hg3, ho3⟩
 refine ⟨_, rfl, fun _ => hg3, ?_⟩
 simp only [Act.put, pB, pC, pD]
 refine ord_call rfl rfl rfl rfl rfl Tryz.func116 rfl rfl [.slice A3 e.known.length c3'] rfl ?_
 refine (bcount_calls A3 c3' e.known HP.out.ok.known HP.out.ok.few.2 w3 (SliceR.of_own ho3)).mono ?_
 rintro ee w4 ⟨rfl, rfl⟩
 refine ⟨_, rfl, fun _ => Keep.refl _ _, ?_⟩
 simp only [Act.put, pB, pC, pD]
 refine ord_pure rfl rfl rfl rfl rfl (fun _ _ _ _ h => h) ?_ ?_ ?_ ?_ ?_
 rotate_left 2
 ·intro w'; go_simp; with_reducible rfl
 ·simp only [Act.put, pB, pC, pD]; rfl
 refine ord_call rfl rfl rfl rfl rfl Tryz.func118 rfl rfl [.pointer (some ⟨b, 0, none⟩)] rfl ?_
 refine (pmani_calls ((HP.out.grow (Keep.refl NoB W2).drew).grow hg3)).mono ?_
 rintro ee w4 ⟨A4, c4', rfl, hg4, ho4⟩
 refine ⟨_, rfl, fun _ => hg4, ?_⟩
 simp only [Act.put, pB, pC, pD]
 refine ord_call rfl rfl rfl rfl rfl Tryz.func64 rfl rfl [.agg #[.int .u64 e.session, .slice A4 e.sz.length c4', .int .u32 (e.sum : Nat)]] rfl ?_
 refine (mchunks_calls e.session e.sum A4 c4' e.sz w4 (SliceR.of_own ho4) HP.out.ok.fit).mono ?_
 rintro ee w5 ⟨rfl, hg5⟩
 refine ⟨_, rfl, fun _ => hg5, ?_⟩
 simp only [Act.put, pB, pC, pD]
 have hgd := (((Keep.refl NoB W2).drew.grow hg3).grow hg4).grow hg5
 replace HS := LH (Grow.heap hgd HS.out)
 replace HC := LH (Grow.heap hgd HC.out)
 replace HG := LH (HG.out.grow hgd)
 clear hg3 hg4 hg5 ho3 ho4 hgd c0 c1 c2 c3 c4 c5 c6 c7 c8 c9 c10 c11 c12 c13 c14 c15 c16 c17 c18 c19 c20 cf
 obtain ⟨z0, z1, z2, z3, zf⟩ := cells4 HS.out
 refine ord_put rfl rfl rfl rfl ?_ ?_ (fun h => absurd (by simp) h) ?_
 rotate_left
 ·go_simp; with_reducible rfl
 refine ord_pure rfl rfl rfl rfl rfl (fun _ _ _ _ h => h) ?_ ?_ ?_ ?_ ?_
 rotate_left 2
 ·intro w'; go_simp; with_reducible rfl
 ·simp only [Act.put, pB, pC, pD]; rfl
 refine ord_put rfl rfl rfl rfl ?_ ?_ (fun h => absurd (by simp) h) ?_
 rotate_left
 ·go_simp; with_reducible rfl
 refine ord_nil ?_
 have hne : N ≠ w.heap.size := by omega
 have e1 := set_cells HS.out 2 (.int .i64 (popB e.known : Nat))
 have e2 := set_cells e1 3 (.int .i64 (chunksN e.sz : Nat))
 have hk := ((Keep.refl (fun k => k = N) w5).setCell (p := ⟨N, 2, none⟩) (.inl rfl) (.int .i64 (popB e.known : Nat))).setCell (p := ⟨N, 3, none⟩) (.inl rfl) (.int .i64 (chunksN e.sz : Nat))
 have hC := (hk.block _ (gE HC.out).1 (fun e => hne e.symm)).trans HC.out
 have hG2 := (HG.out.mono (T := fun k => k = N) (fun _ h => h.elim)).trans hk (fun _ h => .inl h)
 have hG3 : Grow w _ := hG2.new (fun i e => by rw [e]; omega)
 have HR := LH (stored4 (.int .i64 d.phase) (.int .u16 d.err) (.int .i64 (popB e.known : Nat)) (.int .i64 (chunksN e.sz : Nat)) hG3 (Nat.le_refl _) hC)
 generalize ((w5.setCell ⟨N, 2, none⟩ (.int .i64 (popB e.known : Nat))).setCell ⟨N, 3, none⟩ (.int .i64 (chunksN e.sz : Nat))) = w6 at HR e2 hC ⊢
 clear z0 z1 z2 z3 zf hG2 hG3 hk e1
 obtain ⟨z0, z1, z2, z3, zf⟩ := cells4 (a0 := .int .i64 d.phase) (a1 := .int .u16 d.err) (a2 := .int .i64 (popB e.known : Nat)) (a3 := .int .i64 (chunksN e.sz : Nat)) e2
 obtain ⟨y0, y1, y2, y3, yf⟩ := cells4 hC
 clear e2 hC
 go_wp2
 obtain ⟨r0, r1, r2, r3, rf⟩ := cells4 HR.out.1
 refine bodyPost_ret (v := .agg #[.int .i64 d.phase, .int .u16 d.err, .int .i64 (popB e.known : Nat), .int .i64 (chunksN e.sz : Nat)]) ?_ rfl ⟨rfl, HR.out.2⟩
 rw [results_cell1 rfl]; go_simp
theorem zerosI (m : Nat) : (Builtin.zeroCells (Value.int .i64 0).cells m).toList = ints (List.replicate m 0) := by
 apply List.ext_getElem (by simp [Builtin.zeroCells, ints, Value.cells])
 intro j h1 h2
 simp [Builtin.zeroCells, ints, Value.cells, Nat.mod_one]
theorem run_appi (w : World) (base : Nat) (ty : TypeId) (v : Value) (n : Nat) (xs : List Value) (hown : w.ownsRow base 3 1 v n xs) (m : Nat) (hnm : n + m ≤ 10000000) (hbase : base ≤ w.heap.size) :
    ∃ v' w', (Builtin.append_ #[37, 3] ty #[v, .int .i64 m]).run Tryz.prog w = .ok v' w' ∧ w'.ownsRow base 3 1 v' (n + m) (xs ++ ints (List.replicate m 0)) ∧ w.grownBy w' v.ownBlock ∧ (v'.ownBlock = v.ownBlock ∨ v'.ownBlock = some w.heap.size) := by
 obtain ⟨i, hi, hz, hsz, hby⟩ := info_parts info_int
 have hw : IntKind.i64.wrap (m : Int) = m := IntWalk.i64_in _ (by omega)
 have hw0 : IntKind.i64.wrap 0 = 0 := IntWalk.i64_in _ (by omega)
 have hneg : ¬ ((m : Int) < 0) := by omega
 have hbig : ¬ (281474976710656 < (m : Int) * (i.bytes : Int)) := by rw [hby]; omega
 have ht := u_ints
 have hti := u_int3
 have hl : (ints (List.replicate m 0)).length = m := by simp [ints]
 have hzz := zerosI m
 have hna : Builtin.zeroCells (Value.int .i64 0).cells m = (ints (List.replicate m 0)).toArray := by rw [← hzz]
 have hlen : (xs ++ ints (List.replicate m 0)).length = (n + m) * 1 := by rw [List.length_append, hown.1, hl]; omega
 have grown : ∀ (old : Nat), old < n + m → ∀ (row : Option Nat),
     (w.drew.alloc (.cells ((xs ++ ints (List.replicate m 0)).toArray ++ Builtin.zeroCells (Value.int .i64 0).cells (grownCap w (n + m) old 3 - (n + m))) 3)).ownsRow base 3 1
      (.slice (some ⟨w.heap.size, 0, none⟩) (n + m) (grownCap w (n + m) old 3)) (n + m) (xs ++ ints (List.replicate m 0)) ∧
     w.grownBy (w.drew.alloc (.cells ((xs ++ ints (List.replicate m 0)).toArray ++ Builtin.zeroCells (Value.int .i64 0).cells (grownCap w (n + m) old 3 - (n + m))) 3)) row := by
  intro old ho row
  have hge := grownCap_ge w (n + m) old 3
  have hcm : grownCap w (n + m) old 3 ≤ maxLen := grownCap_le_maxLen w (n + m) old 3 (by simp [maxLen]; omega)
  refine ⟨⟨hlen, .inr ⟨w.heap.size, _, _, rfl, hbase, heap_alloc_new w.drew _, hge, hcm, ?_, ?_⟩⟩, ⟨rfl, rfl, rfl, by simp, fun k hk _ => Below.heap_alloc w.drew _ k hk⟩⟩
  ·rw [Array.size_append, List.size_toArray, size_zeroCells, hlen]
   simp only [Value.cells, List.size_toArray, List.length_cons, List.length_nil]
   omega
  ·rw [Array.toList_append, ← hlen]
   exact List.take_left
 have runs : ∀ (A : Option Addr) (cap : Nat), cap < n + m → (Builtin.firstCells 1 n (.slice A n cap)).run Tryz.prog w.drew = .ok xs.toArray w.drew → (Builtin.append_ #[37, 3] ty #[.slice A n cap, .int .i64 m]).run Tryz.prog w =
     .ok (.slice (some ⟨w.heap.size, 0, none⟩) (n + m) (grownCap w (n + m) cap 3)) (w.drew.alloc (.cells ((xs ++ ints (List.replicate m 0)).toArray ++ Builtin.zeroCells (Value.int .i64 0).cells (grownCap w (n + m) cap 3 - (n + m))) 3)) := by
  intro A cap hcap hfo
  have hn : ¬ (n + m ≤ cap) := by omega
  have h63' : ¬ (9223372036854775807 < ((n : Int) + (m : Int))) := by omega
  have hfit := growslice_fits (bytes := i.bytes) hcap (by rw [hby]; omega)
  have h48' : ¬ (281474976710656 < Builtin.nextslicecap (n + m) cap * i.bytes) := by omega
  by_cases hm : m = 0
  ·subst hm
   have hnl : ints (List.replicate 0 0) = [] := rfl
   rw [hnl]
   simp only [Nat.add_zero] at hn h63' h48' ⊢
   have h63'' : ¬ (9223372036854775807 < (n : Int)) := by omega
   simp [Builtin.append_, run_underlying ht, run_underlying hti, sizeOf, typeInfo, zeroValue, hi, hz, hsz, asInt, asIntOf, hw0, hn, h63'', h48', Question.forced, hfo, newRow, grownCap]
  ·have hmz : ¬ (m = 0) := hm
   simp [Builtin.append_, run_underlying ht, run_underlying hti, sizeOf, typeInfo, zeroValue, hi, hz, hsz, asInt, asIntOf, hw, hneg, hbig, hn, h63', h48', Question.forced, hfo, newRow, grownCap, hmz, hna]
   generalize ints (List.replicate m 0) = Z
   have e : ∀ Y : Array Value, xs.toArray ++ (Z.toArray ++ Y) = (xs ++ Z).toArray ++ Y := fun Y => by apply Array.ext'; simp
   rw [e]
 rcases hown.2 with ⟨rfl, rfl⟩ | ⟨g, cap, cur, rfl, hbg, hg, hnc, hcm, hcs, htake⟩
 ·have hx : xs = [] := List.eq_nil_of_length_eq_zero (by simpa using hown.1)
  subst hx
  by_cases hm : m = 0
  ·subst hm
   refine ⟨.slice none 0 0, w, ?_, World.ownsRow_nil w base 3 1, ⟨rfl, rfl, rfl, Nat.le_refl _, fun _ _ _ => rfl⟩, Or.inl rfl⟩
   simp [Builtin.append_, run_underlying ht, run_underlying hti, sizeOf, typeInfo, hi, asInt, asIntOf, hw0]
  ·have hgr := grown 0 (by omega) (Value.ownBlock (.slice none 0 0))
   exact ⟨_, _, runs none 0 (by omega) (by simp [Builtin.firstCells]), hgr.1, hgr.2, Or.inr rfl⟩
 ·by_cases hroom : n + m ≤ cap
  ·have hfit : n + (ints (List.replicate m 0)).length ≤ cur.size := by rw [hl, hcs]; omega
   have hst := run_storeCells_at Tryz.prog g n 3 (ints (List.replicate m 0)) 0 cur w hg (by simpa using hfit) (ints_one _)
   simp only [Nat.add_zero] at hst
   refine ⟨_, _, ?_, ⟨hlen, .inr ⟨g, cap, _, rfl, hbg, setRow_heap w g cur (cur.toList.take n ++ ints (List.replicate m 0) ++ cur.toList.drop (n + (ints (List.replicate m 0)).length)).toArray 3 _ hg, hroom, hcm, ?_, ?_⟩⟩, ⟨rfl, rfl, rfl, by simp, fun k _ hk => setRow_other w g k _ (fun e => hk (by simp [Value.ownBlock, e]))⟩, .inl rfl⟩
   ·by_cases hm : m = 0
    ·subst hm
     have hnl : ints (List.replicate 0 0) = [] := rfl
     rw [hnl] at hst ⊢
     simp at hst
     simp [Builtin.append_, run_underlying ht, run_underlying hti, sizeOf, typeInfo, hi, hsz, asInt, asIntOf, hw0, hnc, Addr.add_lit, hst]
    ·simp [Builtin.append_, run_underlying ht, run_underlying hti, sizeOf, typeInfo, zeroValue, hi, hz, hsz, asInt, asIntOf, hw, hneg, hbig, hroom, hm, hna, Addr.add_lit, hst]
   ·simp only [List.size_toArray, List.length_append, List.length_take, List.length_drop, Array.length_toList]
    omega
   ·have h6 : cur.toList.take n = xs := by simpa using htake
    rw [h6, ← hlen]
    exact List.take_left
  ·have holds : ∀ j u, xs[j]? = some u → w.cell? ((⟨g, 0, none⟩ : Addr).add j) = some u := hown.cells (g := g) rfl
   have hgr := grown cap (by omega) (Value.ownBlock (.slice (some ⟨g, 0, none⟩) n cap))
   exact ⟨_, _, runs (some ⟨g, 0, none⟩) cap (by omega) (run_firstCells_some (P := Tryz.prog) w.drew 1 n _ n cap xs (by simpa using hown.1) (by simpa using holds)), hgr.1, hgr.2, Or.inr rfl⟩
theorem sgrow_calls (n : Nat) (h0 : 0 < n) (hn : n ≤ 100000) (w : World) : Calls Tryz.prog 258 #[.slice none 0 0, .int .i64 n] w fun e w' => ∃ b c, e = .returned (.slice (some ⟨b, 0, none⟩) 0 c) ∧ w'.ownsRow w.heap.size 3 1 (.slice (some ⟨b, 0, none⟩) 0 c) 0 [] ∧ Grow w w' := by
 obtain ⟨v', w', hr, ho, hg, hat⟩ := run_appi w w.heap.size 37 (.slice none 0 0) 0 [] (World.ownsRow_nil _ _ _ _) n (by omega) (Nat.le_refl _)
 have hgr : Grow w w' := (Keep.refl NoB w).grown hg (fun k hk => by simp [Value.ownBlock] at hk)
 rw [Nat.zero_add] at ho
 obtain ⟨A9, c9, rfl, hc9, h9, h8⟩ := own_slice ho
 obtain ⟨b, rfl⟩ : ∃ b, A9 = some ⟨b, 0, none⟩ := by
  rcases A9 with _ | ad
  ·exact absurd (h8 rfl).1 (by omega)
  ·exact ⟨ad.block, h9 ad.block rfl⟩
 have ho0 := own_take ho 0 (by omega)
 rw [Nat.zero_mul, List.take_zero] at ho0
 have HO := LH ho0
 have HG := LH hgr
 have HR := LH hr
 have hpos : (0 : Int) < n := by omega
 clear hr ho hg hat hgr h9 h8 ho0
 go_enter Tryz.func258, Tryz.ntmps258
 have hw : IntKind.i64.wrap (n : Int) = n := IntWalk.i64_in _ (by omega)
 go_wp2_with (at_builtin; refine wpList_run rfl _ _ _ _ rfl _ _ rfl rfl _ w' HR.out ?_)
 go_ret
 exact ⟨b, c9, rfl, HO.out, HG.out⟩
def lenT (ps : List (List Int)) (k : Nat) : Nat := (ps.take k).flatten.length
theorem lenT_succ {ps : List (List Int)} {k : Nat} (hk : k < ps.length) : lenT ps (k + 1) = lenT ps k + ps[k].length := by
 unfold lenT
 rw [List.take_succ_eq_append_getElem hk, List.flatten_append, List.length_append]; simp
theorem flat_succ {ps : List (List Int)} {k : Nat} (hk : k < ps.length) : (ps.take (k + 1)).flatten = (ps.take k).flatten ++ ps[k] := by
 rw [List.take_succ_eq_append_getElem hk, List.flatten_append]; simp
theorem lenT_le (ps : List (List Int)) (k : Nat) : lenT ps k ≤ ps.flatten.length := by
 unfold lenT
 conv => rhs; rw [← List.take_append_drop k ps]
 rw [List.flatten_append, List.length_append]
 omega
theorem sconcat_calls (ps : List (List Int)) (F : List Int) (hF : ps.flatten = F) (A : Option Addr) (c : Nat) (w : World) (h : RowsR .i64 ps (.slice A ps.length c) w) (h0 : 0 < F.length) (h1 : F.length ≤ 1000) (h2 : ps.length ≤ 100) :
    Calls Tryz.prog 231 #[.slice A ps.length c] w fun e w' => ∃ A c, e = .returned (.slice A F.length c) ∧ Grow w w' ∧ w'.ownsRow w.heap.size 3 1 (.slice A F.length c) F.length (ints F) := by
 have H := LH h
 have HF := LH hF
 have HN : Hid (ps.flatten.length = F.length) := LH (by rw [hF])
 have HT : Hid (∀ k, lenT ps k ≤ F.length) := LH (fun k => hF ▸ lenT_le ps k)
 clear h hF
 go_enter Tryz.func231, Tryz.ntmps231
 go_wp2
 go_loopw [3, 11] (fun vs v wr => ∃ k : Nat, k ≤ ps.length ∧ v = .int .i64 k ∧ vs = .int .i64 (lenT ps k : Nat) ∧ wr = w) (fun _ v _ => ps.length - (intOf v).toNat)
 case atStart => exact ⟨0, by omega, rfl, by simp [lenT], rfl⟩
 case round =>
  obtain ⟨k, hk, rfl, rfl, rfl⟩ := hrel
  by_cases hlt : k < ps.length
  ·obtain ⟨ad, A', c', rfl, h2', _⟩ := H.out.at_ k hlt
   have hw : IntKind.i64.wrap ((k : Int) + 1) = (k : Int) + 1 := IntWalk.i64_in _ (by omega)
   have hlt' : (k : Int) < ps.length := by omega
   have e1 := lenT_succ hlt
   have e2 := HT.out (k + 1)
   have hw2 : IntKind.i64.wrap ((lenT ps k : Nat) + (ps[k].length : Nat) : Int) = (lenT ps (k + 1) : Nat) := by rw [IntWalk.i64_in _ (by omega)]; omega
   have hnn : (((lenT ps (k + 1) : Nat) : Int) < 0) = False := by simp
   go_wp2
   go_roundw
   case rel => exact ⟨k + 1, by omega, by go_num, by rw [e1]; go_num, trivial⟩
   case measure => simp [intOf]; omega
  ·obtain rfl : k = ps.length := by omega
   have hlt' : ¬ ((ps.length : Int) < ps.length) := by omega
   have e9 : lenT ps ps.length = F.length := by rw [← HN.out]; simp [lenT]
   rw [e9]
   go_wp2_with fail
   refine (sgrow_calls F.length h0 (by omega) _).mono ?_
   rintro e w1 ⟨b, c2, rfl, ho, hg⟩
   have HO := LH ho
   have HG := LH hg
   clear ho hg
   obtain ⟨W, rfl⟩ : ∃ W : World, W = wr := ⟨_, rfl⟩
   go_wp2
   go_loopw [6, 27] (fun vo v wr => ∃ k : Nat, k ≤ ps.length ∧ v = .int .i64 k ∧ ∃ A4 c4, vo = .slice A4 (lenT ps k) c4 ∧ Hid (Grow W wr ∧ wr.ownsRow W.heap.size 3 1 (.slice A4 (lenT ps k) c4) (lenT ps k) (ints (ps.take k).flatten))) (fun _ v _ => ps.length - (intOf v).toNat)
   case atStart => exact ⟨0, by omega, rfl, _, c2, rfl, HG.out, HO.out⟩
   case round =>
    obtain ⟨k, hk, rfl, A4, c4, rfl, HS⟩ := hrel
    by_cases hlt : k < ps.length
    ·obtain ⟨ad, A', c', rfl, h2', h3'⟩ := (H.out.grow HS.out.1).at_ k hlt
     have hw : IntKind.i64.wrap ((k : Int) + 1) = (k : Int) + 1 := IntWalk.i64_in _ (by omega)
     have hlt' : (k : Int) < ps.length := by omega
     have e1 := lenT_succ hlt
     have e2 := HT.out (k + 1)
     have E1 : Hid (ints (ps.take (k + 1)).flatten = ints (ps.take k).flatten ++ ints ps[k]) := LH (by rw [flat_succ hlt]; simp [ints])
     have HSR := LH (show SliceR 1 (.slice A' ps[k].length c') ps[k].length (ints ps[k]) _ from h3')
     clear h3'
     go_wp2_with (at_builtin; refine wpList_app _ rfl _ _ 37 37 rfl W.heap.size 3 (.int .i64 0) 1 8 u_ints info_int rfl (.slice A4 (lenT ps k) c4) (lenT ps k) (ints (ps.take k).flatten) rfl (.slice A' ps[k].length c') ps[k].length (ints ps[k]) rfl ?_ (by exact HS.out.2) (by exact HSR.out.src u_ints (ints_one _)) (by simp only [maxLen]; omega) (by omega) (by have := HS.out.1.size; omega); intro v2 w2 hap; refine Hid.out ?_)
     refine LH ?_
     rw [← e1, ← E1.out] at hap
     have Hg2 : Hid (Grow W w2) := ((((HS.out.1.mono (T := fun k => W.heap.size ≤ k) (fun _ h => h.elim))).grown hap.grew (fun k hk => .inl (HS.out.2.lt k hk).1))).new (fun _ h => h)
     have Ho2 := LH hap.own
     obtain ⟨A6, c6, rfl, _⟩ := own_slice hap.own
     clear hap
     go_wp2
     go_roundw
     case rel => exact ⟨k + 1, by omega, by go_num, A6, c6, rfl, Hg2.out, Ho2.out⟩
     case measure => simp [intOf]; omega
    ·obtain rfl : k = ps.length := by omega
     have hlt' : ¬ ((ps.length : Int) < ps.length) := by omega
     rw [List.take_length, e9, HF.out] at HS
     rw [e9]
     go_wp2
     go_ret
     exact ⟨A4, c4, rfl, HS.out⟩
structure PagesOk (ps : List (List Int)) (F : List Int) : Prop where
 n : ps.length ≤ 4
 one : ∀ i (h : i < ps.length), 1 ≤ ps[i].length ∧ ps[i].length ≤ 4
 full : ∀ i (h : i < ps.length), i + 1 < ps.length → ps[i].length = 4
 fit : fitsB F = true
 flat : ps.flatten = F
theorem mjoin_calls (ps : List (List Int)) (F : List Int) (hp : PagesOk ps F) (A : Option Addr) (c : Nat) (w : World) (h : RowsR .i64 ps (.slice A ps.length c) w) :
    Calls Tryz.prog 180 #[.slice A ps.length c] w fun e w' => ∃ A c, e = .returned (.tuple #[.slice A F.length c, .bool true]) ∧ Grow w w' ∧ w'.ownsRow w.heap.size 3 1 (.slice A F.length c) F.length (ints F) := by
 have H := LH h
 have hn := hp.n
 have HP := LH hp
 obtain ⟨hf1, hf2, hf3, hf4⟩ := fits_parts hp.fit
 have HF : Hid (∀ x ∈ F, -9223372036854775808 ≤ x ∧ x ≤ 9223372036854775807) := LH (fun x hx => by
  have h1 := hf3 x hx
  have h2 := le_sum_of_mem hf3 x hx
  omega)
 clear h hp hf3 hf4
 go_enter Tryz.func180, Tryz.ntmps180
 go_wp2
 go_loopw [9] (fun v wr => ∃ k : Nat, k ≤ ps.length ∧ v = .int .i64 k ∧ wr = w) (fun v _ => ps.length - (intOf v).toNat)
 case atStart => exact ⟨0, by omega, rfl, rfl⟩
 case round =>
  obtain ⟨k, hk, rfl, rfl⟩ := hrel
  by_cases hlt : k < ps.length
  ·obtain ⟨ad, A', c', rfl, h2', _⟩ := H.out.at_ k hlt
   have hw : IntKind.i64.wrap ((k : Int) + 1) = (k : Int) + 1 := IntWalk.i64_in _ (by omega)
   have hw2 : IntKind.i64.wrap ((ps.length : Int) - 1) = (ps.length : Int) - 1 := IntWalk.i64_in _ (by omega)
   have hlt' : (k : Int) < ps.length := by omega
   obtain ⟨o1, o2⟩ := HP.out.one k hlt
   have g1 : ¬ ((ps[k].length : Int) < 1) := by omega
   have g2 : ¬ ((4 : Int) < ps[k].length) := by omega
   by_cases hl : k + 1 < ps.length
   ·have o3 := HP.out.full k hlt hl
    have g3 : (k : Int) < (ps.length : Int) - 1 := by omega
    have g4 : ¬ ((ps[k].length : Int) < 4) := by omega
    go_wp2
    go_roundw
    case rel => exact ⟨k + 1, by omega, by go_num, trivial⟩
    case measure => simp [intOf]; omega
   ·have g3 : ¬ ((k : Int) < (ps.length : Int) - 1) := by omega
    go_wp2
    go_roundw
    case rel => exact ⟨k + 1, by omega, by go_num, trivial⟩
    case measure => simp [intOf]; omega
  ·obtain rfl : k = ps.length := by omega
   have hlt' : ¬ ((ps.length : Int) < ps.length) := by omega
   go_wp2_with fail
   refine (sconcat_calls ps F HP.out.flat A c _ H.out (by omega) (by omega) (by omega)).mono ?_
   rintro e w1 ⟨A1, c1, rfl, hg, ho⟩
   have HO := LH ho
   have HG := LH hg
   have hfit := HP.out.fit
   have HC := LH (fits_calls A1 c1 F w1 (SliceR.of_own ho) HF.out)
   clear ho hg
   rw [hfit] at HC
   go_wp2_with fail
   refine HC.out.mono ?_
   rintro e w2 ⟨rfl, rfl⟩
   go_wp2
   go_ret2
   exact ⟨A1, c1, rfl, HG.out, HO.out⟩
theorem bindex_calls (bs : List Bool) (b : Bool) (hb : bs.contains false = b) (A : Option Addr) (c : Nat) (w : World) (h : SliceR 1 (.slice A bs.length c) bs.length (bs.map Value.bool) w) (hn : bs.length ≤ 1000) :
    Calls Tryz.prog 230 #[.slice A bs.length c, .bool false] w fun e w' => ∃ i : Int, e = .returned (.int .i64 i) ∧ decide (0 ≤ i) = b ∧ w = w' := by
 have H := LH h
 have HB := LH hb
 clear h hb
 go_enter Tryz.func230, Tryz.ntmps230
 go_wp2
 go_loopw [8] (fun v wr => ∃ k : Nat, k ≤ bs.length ∧ v = .int .i64 k ∧ wr = w ∧ Hid ((bs.take k).contains false = false)) (fun v _ => bs.length - (intOf v).toNat)
 case atStart => exact ⟨0, by omega, rfl, rfl, LH (by simp)⟩
 case round =>
  obtain ⟨k, hk, rfl, rfl, HH⟩ := hrel
  by_cases hlt : k < bs.length
  ·have hw : IntKind.i64.wrap ((k : Int) + 1) = (k : Int) + 1 := IntWalk.i64_in _ (by omega)
   have hlt' : (k : Int) < bs.length := by omega
   obtain ⟨A1, c1, e1, _, _, _, hc⟩ := H.out
   cases e1
   obtain ⟨ad, rfl, hcell⟩ := hc k (.bool bs[k]) (by simp [hlt])
   by_cases hb : bs[k] = true
   ·rw [hb] at hcell
    have HN : Hid ((bs.take (k + 1)).contains false = false) := LH (by
     rw [List.take_succ_eq_append_getElem hlt]
     have := HH.out
     rw [List.contains_eq_mem] at this ⊢
     simp only [decide_eq_false_iff_not, List.mem_append, List.mem_singleton, not_or] at this ⊢
     exact ⟨this, by rw [hb]; simp⟩)
    clear hb
    go_wp2
    go_roundw
    case rel => exact ⟨k + 1, by omega, by go_num, trivial, HN⟩
    case measure => simp [intOf]; omega
   ·have hb2 : bs[k] = false := by simpa using hb
    rw [hb2] at hcell
    have HN : Hid (bs.contains false = true) := LH (by rw [List.contains_eq_mem]; simp only [decide_eq_true_eq]; rw [← hb2]; exact List.getElem_mem hlt)
    clear hb hb2
    go_wp2
    (try simp only [Exit.inBlock, Exit.then])
    go_ret
    exact ⟨k, rfl, by rw [← HB.out, HN.out]; simp, rfl⟩
  ·obtain rfl : k = bs.length := by omega
   have hlt' : ¬ ((bs.length : Int) < bs.length) := by omega
   have HN : Hid (bs.contains false = false) := LH (by have := HH.out; rwa [List.take_length] at this)
   go_wp2
   go_ret
   exact ⟨-1, rfl, by rw [← HB.out, HN.out]; decide, rfl⟩
theorem bcontains_calls (bs : List Bool) (b : Bool) (hb : bs.contains false = b) (A : Option Addr) (c : Nat) (w : World) (h : SliceR 1 (.slice A bs.length c) bs.length (bs.map Value.bool) w) (hn : bs.length ≤ 1000) :
    Calls Tryz.prog 179 #[.slice A bs.length c, .bool false] w fun e w' => e = .returned (.bool b) ∧ w = w' := by
 have H := LH h
 have HB := LH hb
 clear h hb
 go_enter Tryz.func179, Tryz.ntmps179
 go_wp2_with fail
 refine (bindex_calls bs b HB.out A c w H.out hn).mono ?_
 rintro e w1 ⟨i, rfl, hi, rfl⟩
 subst hi
 clear HB
 go_wp2
 go_ret
 exact ⟨rfl, rfl⟩
def RC.h (d : RC) (i : Nat) : Bool := match i with | 0 => d.h0 | 1 => d.h1 | 2 => d.h2 | _ => d.h3
def RC.z (d : RC) (i : Nat) : Sl := match i with | 0 => d.z0 | 1 => d.z1 | 2 => d.z2 | _ => d.z3
def RC.setH (d : RC) (i : Nat) : RC := match i with | 0 => { d with h0 := true } | 1 => { d with h1 := true } | 2 => { d with h2 := true } | _ => { d with h3 := true }
def RC.setZ (d : RC) (i : Nat) (s : Sl) : RC := match i with | 0 => { d with z0 := s } | 1 => { d with z1 := s } | 2 => { d with z2 := s } | _ => { d with z3 := s }
theorem four {P : Nat → Prop} (h0 : P 0) (h1 : P 1) (h2 : P 2) (h3 : P 3) (i : Nat) (hi : i < 4) : P i := by
 match i, hi with
 | 0, _ => exact h0
 | 1, _ => exact h1
 | 2, _ => exact h2
 | 3, _ => exact h3
theorem RCell.h_cell {g : Nat} {d : RC} {w : World} (h : RCell g d w) (i : Nat) (hi : i < 4) : w.cell? ⟨g, 11 + i, none⟩ = some (.bool (d.h i)) :=
 four (P := fun i => w.cell? ⟨g, 11 + i, none⟩ = some (.bool (d.h i))) (World.news_of_block h 11 _ rfl) (World.news_of_block h 12 _ rfl) (World.news_of_block h 13 _ rfl) (World.news_of_block h 14 _ rfl) i hi
theorem RCell.z_cell {g : Nat} {d : RC} {w : World} (h : RCell g d w) (i : Nat) (hi : i < 4) : w.cell? ⟨g, 15 + i, none⟩ = some (.slice (d.z i).A (d.z i).n (d.z i).c) :=
 four (P := fun i => w.cell? ⟨g, 15 + i, none⟩ = some (.slice (d.z i).A (d.z i).n (d.z i).c)) (World.news_of_block h 15 _ rfl) (World.news_of_block h 16 _ rfl) (World.news_of_block h 17 _ rfl) (World.news_of_block h 18 _ rfl) i hi
theorem RC.setH_cs (d : RC) (i : Nat) (hi : i < 4) : d.cs.setIfInBounds (11 + i) (.bool true) = (d.setH i).cs :=
 four (P := fun i => d.cs.setIfInBounds (11 + i) (.bool true) = (d.setH i).cs) rfl rfl rfl rfl i hi
theorem RC.setZ_cs (d : RC) (i : Nat) (hi : i < 4) (s : Sl) : d.cs.setIfInBounds (15 + i) (.slice s.A s.n s.c) = (d.setZ i s).cs :=
 four (P := fun i => d.cs.setIfInBounds (15 + i) (.slice s.A s.n s.c) = (d.setZ i s).cs) rfl rfl rfl rfl i hi
theorem roffer_twice {g : Nat} {rc : RC} {w : World} (h : RCell g rc w) (hph : rc.phase = 1) (hpt : rc.part = none) (of i : Nat) (hof : rc.of = of) (h1 : 1 ≤ of) (h4 : of ≤ 4) (hi : i < of) (hh : rc.h i = true) (A1 A2 : Option Addr) (n1 c1' n2 c2' : Nat) :
    Calls Tryz.prog 109 #[.pointer (some ⟨g, 0, none⟩), .agg #[.int .i64 1, .int .u64 rc.session, .int .i64 i, .int .i64 of, .int .u32 (rc.sum : Nat), .slice A1 n1 c1', .slice A2 n2 c2']] w fun e w' => e = .returned (.slice none 0 0) ∧ Grow w w' := by
 have hg0 := (Keep.refl NoB w).alloc (.cells #[.int .i64 1, .int .u64 rc.session, .int .i64 i, .int .i64 of, .int .u32 (rc.sum : Nat), .slice A1 n1 c1', .slice A2 n2 c2'] 46)
 have HZ := LH (heap_alloc_new w (.cells #[.int .i64 1, .int .u64 rc.session, .int .i64 i, .int .i64 of, .int .u32 (rc.sum : Nat), .slice A1 n1 c1', .slice A2 n2 c2'] 46))
 have H := LH (h.grow hg0)
 have HG := LH hg0
 have HHH := LH hh
 have hwi : (i : Int) < 4 := by omega
 clear h hg0 hh
 go_enter Tryz.func109, Tryz.ntmps109
 obtain ⟨z0, z1, z2, z3, z4, z5, z6, zf⟩ := cells7 HZ.out
 obtain ⟨c0, c1, c2, c3, c4, c5, c6, c7, c8, c9, c10, c11, c12, c13, c14, c15, c16, c17, c18, c19, c20, cf⟩ := cells21 H.out
 rw [hpt] at c0
 rw [hph] at c6
 go_wp2_with fail
 refine (rours_calls H.out 1 rc.session i of rc.sum A1 A2 n1 c1' n2 c2').mono ?_
 rintro e w1 ⟨rfl, hg⟩
 replace H := LH (H.out.grow hg)
 replace HG := LH (HG.out.grow hg)
 replace HZ := LH (Grow.heap hg HZ.out)
 have hdd : decide (rc.session = rc.session ∧ rc.sum = rc.sum) = true := by simp
 rw [hdd]
 clear hg hdd c0 c1 c2 c3 c4 c5 c6 c7 c8 c9 c10 c11 c12 c13 c14 c15 c16 c17 c18 c19 c20 cf z0 z1 z2 z3 z4 z5 z6 zf
 obtain ⟨z0, z1, z2, z3, z4, z5, z6, zf⟩ := cells7 HZ.out
 obtain ⟨c0, c1, c2, c3, c4, c5, c6, c7, c8, c9, c10, c11, c12, c13, c14, c15, c16, c17, c18, c19, c20, cf⟩ := cells21 H.out
 rw [hpt] at c0
 rw [hph] at c6
 go_wp2
 have ch := H.out.h_cell i (by omega)
 rw [HHH.out] at ch
 rw [hof] at c10
 refine region_ord [0, 1, 2, 3, 4, 5, 6, 7, 8, 9, 10, 11, 12, 13, 14, 15] [] [1, 5, 10, 14] [] rfl (by kernel_rfl) ?_
 refine ord_pure rfl rfl rfl rfl rfl (fun _ _ _ _ h => h) ?_ ?_ ?_ ?_ ?_
 rotate_left 2
 ·intro w'; go_simp; with_reducible rfl
 ·simp only [Act.put, pB, pC, pD]; rfl
 refine ord_read rfl rfl rfl rfl rfl (fun _ _ _ _ h => h) ?_ ?_ ?_ ?_ ?_
 rotate_left 2
 ·intro w' hg; have q := hg.cell z3 (fun h => h); go_simp; with_reducible rfl
 ·simp only [Act.put, pB, pC, pD]; rfl
 iterate 3
  refine ord_pure rfl rfl rfl rfl rfl (fun _ _ _ _ h => h) ?_ ?_ ?_ ?_ ?_
  rotate_left 2
  ·intro w'; go_simp; with_reducible rfl
  ·simp only [Act.put, pB, pC, pD]; rfl
 refine ord_read rfl rfl rfl rfl rfl (fun _ _ _ _ h => h) ?_ ?_ ?_ ?_ ?_
 rotate_left 2
 ·intro w' hg; have q := hg.cell c10 (fun h => h); go_simp; with_reducible rfl
 ·simp only [Act.put, pB, pC, pD]; rfl
 iterate 2
  refine ord_pure rfl rfl rfl rfl rfl (fun _ _ _ _ h => h) ?_ ?_ ?_ ?_ ?_
  rotate_left 2
  ·intro w'; go_simp; with_reducible rfl
  ·simp only [Act.put, pB, pC, pD]; rfl
 iterate 2
  refine ord_pureG rfl rfl rfl rfl rfl (fun _ _ _ _ h => h) ?_ ?_ ?_ ?_ ?_
  rotate_left 2
  ·intro w'; go_simp; with_reducible rfl
  ·simp only [Act.put, pB, pC, pD]; rfl
 refine ord_readG rfl rfl rfl rfl rfl (fun _ _ _ _ h => h) ?_ ?_ ?_ ?_ ?_
 rotate_left 2
 ·intro w' hg; have q := hg.cell z2 (fun h => h); go_simp; with_reducible rfl
 ·simp only [Act.put, pB, pC, pD]; rfl
 iterate 3
  refine ord_pureG rfl rfl rfl rfl rfl (fun _ _ _ _ h => h) ?_ ?_ ?_ ?_ ?_
  rotate_left 2
  ·intro w'; go_simp; with_reducible rfl
  ·simp only [Act.put, pB, pC, pD]; rfl
 refine ord_readG rfl rfl rfl rfl rfl (fun _ _ _ _ h => h) ?_ ?_ ?_ ?_ ?_
 rotate_left 2
 ·intro w' hg; have q := hg.cell ch (fun h => h); go_simp; with_reducible rfl
 ·simp only [Act.put, pB, pC, pD]; rfl
 refine ord_pure rfl rfl rfl rfl rfl (fun _ _ _ _ h => h) ?_ ?_ ?_ ?_ ?_
 rotate_left 2
 ·intro w'; go_simp; with_reducible rfl
 ·simp only [Act.put, pB, pC, pD]; rfl
 refine ord_nil ?_
 clear z0 z1 z2 z3 z4 z5 z6 zf c0 c1 c2 c3 c4 c5 c6 c7 c8 c9 c10 c11 c12 c13 c14 c15 c16 c17 c18 c19 c20 cf ch
 go_wp2
 go_ret
 exact ⟨rfl, HG.out.drew⟩
end Go.Proofs.YtfkcpaahdlkcdaaGreat

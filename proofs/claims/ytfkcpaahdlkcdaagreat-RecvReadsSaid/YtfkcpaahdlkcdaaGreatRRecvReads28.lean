import Derived.Test.YtfkcpaahdlkcdaaGreatRRecvReads27
set_option linter.unusedSimpArgs false
set_option linter.unusedVariables false
set_option maxRecDepth 100000
set_option maxHeartbeats 16000000
namespace Go.Proofs.YtfkcpaahdlkcdaaGreat
open Go.RowKit
theorem zXI {ws sz:List Int} (hnn:∀ x∈sz,0≤x) (hl:(ws.length:Int)=sz.sum):szs (arenaW ws sz)=sz:=by
 apply List.ext_getElem (by rw [zo,zXA])
 intro k h1 h2
 have h3:=zHD hnn hl k h2
 have h4:=hnn _ (List.getElem_mem h2)
 simp only [szs,arenaW,List.getElem_map,List.getElem_range]
 omega
theorem ziD {ws sz:List Int} (hnn:∀ x∈sz,0≤x):∀ k,k≤sz.length→((arenaW ws sz).take k).flatten=ws.take (offN sz k)
 | 0,_=>by simp [offN]
 | k+1,h=>by
  rw [zgD ws sz k (by omega),List.flatten_append,ziD hnn k (by omega),zGD hnn k (by omega),List.take_add]
  congr 1
  have e:sz.getD k 0=sz[k]'(by omega):=by simp [List.getD_eq_getElem?_getD,show k<sz.length by omega]
  rw [rowAt,e]
  simp
theorem zgE {ws sz:List Int} (hnn:∀ x∈sz,0≤x) (hl:(ws.length:Int)=sz.sum):(arenaW ws sz).flatten=ws:=by
 have h:=ziD (ws:=ws) hnn sz.length (Nat.le_refl _)
 rw [List.take_of_length_le (by rw [zXA];omega)] at h
 rw [h]
 refine List.take_of_length_le ?_
 unfold offN
 rw [List.take_length]
 omega
theorem zoJ {ws sz:List Int} (hf:fitsB sz=true) (hl:(ws.length:Int)=sz.sum) (hw:∀ x∈ws,0≤x∧x≤18446744073709551615):OkA (arenaW ws sz):=by
 obtain ⟨h1,h2,h3,h4⟩:=zM hf
 refine ⟨by rw [zXA];omega,fun s hs=>?_,fun s hs x hx=>?_⟩
 ·obtain ⟨k,hk,rfl⟩:=List.mem_map.1 hs
  unfold rowAt
  rw [List.length_take,List.length_drop]
  omega
 ·obtain ⟨k,hk,rfl⟩:=List.mem_map.1 hs
  exact hw x (List.mem_of_mem_drop (List.mem_of_mem_take hx))
theorem OkP.arena {d:Par} (h:OkP d):OkA (arenaW d.words d.sz)∧szs (arenaW d.words d.sz)=d.sz∧(arenaW d.words d.sz).flatten=d.words :=
 ⟨zoJ h.fit h.wlen h.win,zXI (zM h.fit).2.2.1 h.wlen,zgE (zM h.fit).2.2.1 h.wlen⟩
section
variable {P:Program} {ops:Array Oper} {Q:Exit→Act→World→Prop} {ds:List Nat} {S:Nat→Prop} {R:Act→World→Prop} {acts reads rest:List Nat} {a:Act} {w:World} {i:Nat} {o:Oper}
theorem zoH (hl:ops.toList[i]? = some o) (ha:acts.contains i=true) (hg:Region.wanted o (yielded ops a.tmps)=false) (a':Act) (ha':a.put o.dst undef=a') (h:wpOrdC S P ops Q R acts reads ds rest a' w):wpOrdC S P ops Q R acts reads ds (i :: rest) a w:=by
 refine zmA hl ha (fun K hK=>?_)
 rw [if_neg (by rw [hg];simp),ha']
 exact hK _ _ ⟨fun _=>Keep.refl _ _,h⟩
end
theorem zxE {g b:Nat} {rc:RC} {p:PP} {d:Par} {G:Nat→Prop} {w:World} (h:RCell g rc w) (hp:rc.part=some ⟨b,0,none⟩) (hP:PAt b p d G w) (hno:popB d.known<chunksN d.sz) :
    Calls Tryz.prog 107 #[.pointer (some ⟨g,0,none⟩)] w fun e w'=>(∃ v,e=.returned v)∧Grow w w':=by
 obtain ⟨c0,c1,c2,c3,c4,c5,c6,c7,c8,c9,c10,c11,c12,c13,c14,c15,c16,c17,c18,c19,c20,cf⟩:=zH h
 rw [hp] at c0
 have HW:=LH (zkJ hP hno)
 clear h hP hno
 go_enter Tryz.func107,Tryz.ntmps107
 go_wp2_with fail
 refine HW.out.mono ?_
 rintro e w1 ⟨rfl,hg⟩
 go_wp2
 refine bodyPost_ret (results_none rfl _ _ _) rfl ?_
 exact ⟨⟨_,rfl⟩,hg⟩
def RC.ended (rc:RC) (d:Par):RC :=
 if d.sum=sumP d.session (arenaW d.words d.sz) then (if checkP (arenaW d.words d.sz)=0 then { rc with phase:=2 } else rc.fail (checkP (arenaW d.words d.sz))) else rc.fail 12
theorem zIE {g b:Nat} {rc:RC} {p:PP} {d:Par} {G:Nat→Prop} {w:World} (h:RCell g rc w) (hp:rc.part=some ⟨b,0,none⟩) (hP:PAt b p d G w) (hall:chunksN d.sz≤popB d.known) :
    Calls Tryz.prog 107 #[.pointer (some ⟨g,0,none⟩)] w fun e w'=>(∃ v,e=.returned v)∧RCell g (rc.ended d) w'∧Keep (fun k=>k=g) w w':=by
 obtain ⟨c0,c1,c2,c3,c4,c5,c6,c7,c8,c9,c10,c11,c12,c13,c14,c15,c16,c17,c18,c19,c20,cf⟩:=zH h
 rw [hp] at c0
 have HW:=LH (zID hP hall)
 have hok:=hP.ok.arena
 have HOK:=LH hP.ok
 have HAR:=LH hok
 have H:=LH h
 have HPP:=LH hp
 have HP:=LH hP
 have hlen:d.words.length≤4096:=by have:=zM hP.ok.fit;have:=hP.ok.wlen;omega
 have hsz:d.sz.length≤16:=(zM hP.ok.fit).2.1
 obtain ⟨a,ha⟩:∃ a,arenaW d.words d.sz=a:=⟨_,rfl⟩
 have HE:Hid (rc.ended d=if d.sum=sumP d.session a then (if checkP a=0 then { rc with phase:=2 } else rc.fail (checkP a)) else rc.fail 12):=LH (by unfold RC.ended;rw [ha])
 rw [ha] at HW HAR
 clear h hP hall hok ha
 go_enter Tryz.func107,Tryz.ntmps107
 go_wp2_with fail
 refine HW.out.mono ?_
 rintro e w1 ⟨Aa,ca,F,rfl,hg,hF,_⟩
 have HF:=LH hF
 have HG:=LH hg
 replace H:=LH (H.out.grow hg)
 replace HP:=LH (HP.out.grow hg)
 clear hg hF c0 c1 c2 c3 c4 c5 c6 c7 c8 c9 c10 c11 c12 c13 c14 c15 c16 c17 c18 c19 c20 cf
 obtain ⟨c0,c1,c2,c3,c4,c5,c6,c7,c8,c9,c10,c11,c12,c13,c14,c15,c16,c17,c18,c19,c20,cf⟩:=zH H.out
 rw [HPP.out] at c0
 go_wp2_with fail
 refine (zpA HP.out).mono ?_
 rintro e w2 ⟨Am,cm,rfl,hg,hom⟩
 have hmm:=zPG d.session HOK.out.s0 HOK.out.s1 d.sum Am cm d.sz (by omega) a HAR.out.1 (by rw [HAR.out.2.1];exact HOK.out.fit) (by rw [HAR.out.2.2];omega) Aa ca w2 (SliceR.of_own hom) (HF.out.grow hg).now
 have hdd:decide (d.sum=sumP d.session a∧d.sz=szs a)=decide (d.sum=sumP d.session a):=by
  have:=HAR.out.2.1
  simp [this]
 rw [hdd] at hmm
 have HM:=LH hmm
 replace HF:=LH (HF.out.grow hg)
 replace HG:=LH (HG.out.grow hg)
 replace H:=LH (H.out.grow hg)
 clear hg hom hmm hdd c0 c1 c2 c3 c4 c5 c6 c7 c8 c9 c10 c11 c12 c13 c14 c15 c16 c17 c18 c19 c20 cf
 by_cases hs:d.sum=sumP d.session a
 case neg =>
  rw [decide_eq_false hs] at HM
  replace HE:=LH (HE.out.trans (if_neg hs))
  clear hs
  go_wp2_with fail
  refine HM.out.mono ?_
  rintro e w3 ⟨rfl,hg⟩
  replace HG:=LH (HG.out.grow hg)
  replace H:=LH (H.out.grow hg)
  clear hg
  go_wp2_with fail
  refine (zFC H.out 12).mono ?_
  rintro e w4 ⟨⟨v,rfl⟩,hr,hk⟩
  have HN:=LH (And.intro hr ((HG.out.mono (T:=fun k=>k=g) (fun _ h=>h.elim)).trans hk (fun k hk=>.inl hk)))
  clear hr hk
  go_wp2
  refine bodyPost_ret (results_none rfl _ _ _) rfl ?_
  rw [HE.out]
  exact ⟨⟨_,rfl⟩,HN.out.1,HN.out.2⟩
 rw [decide_eq_true hs] at HM
 replace HE:=LH (HE.out.trans (if_pos hs))
 clear hs
 go_wp2_with fail
 refine HM.out.mono ?_
 rintro e w3 ⟨rfl,hg⟩
 replace HF:=LH (HF.out.grow hg)
 replace HG:=LH (HG.out.grow hg)
 replace H:=LH (H.out.grow hg)
 clear hg
 go_wp2_with fail
 refine (zuG a _ w3 HF.out.now HAR.out.1).mono ?_
 rintro e w4 ⟨rfl,hg⟩
 replace HG:=LH (HG.out.grow hg)
 replace H:=LH (H.out.grow hg)
 clear hg
 by_cases hc:checkP a=0
 case neg =>
  have hcb:(checkP a != 0)=true:=by simp [hc]
  replace HE:=LH (HE.out.trans (if_neg hc))
  clear hc
  go_wp2_with fail
  refine (zFC H.out (checkP a)).mono ?_
  rintro e w5 ⟨⟨v,rfl⟩,hr,hk⟩
  have HN:=LH (And.intro hr ((HG.out.mono (T:=fun k=>k=g) (fun _ h=>h.elim)).trans hk (fun k hk=>.inl hk)))
  clear hr hk
  go_wp2
  refine bodyPost_ret (results_none rfl _ _ _) rfl ?_
  rw [HE.out]
  exact ⟨⟨_,rfl⟩,HN.out.1,HN.out.2⟩
 have hcb:(checkP a != 0)=false:=by simp [hc]
 replace HE:=LH (HE.out.trans (if_pos hc))
 clear hc
 obtain ⟨c0,c1,c2,c3,c4,c5,c6,c7,c8,c9,c10,c11,c12,c13,c14,c15,c16,c17,c18,c19,c20,cf⟩:=zH H.out
 have hpt:=H.out.put (d':={ rc with phase:=2 }) 6 (.int .i64 2) rfl
 have HN:=LH (And.intro hpt.1 ((HG.out.mono (T:=fun k=>k=g) (fun _ h=>h.elim)).trans hpt.2 (fun k hk=>.inl hk)))
 clear hpt
 go_wp2
 go_end0
 rw [HE.out]
 exact ⟨⟨_,rfl⟩,HN.out.1,HN.out.2⟩
end Go.Proofs.YtfkcpaahdlkcdaaGreat
namespace Go.Proofs.YtfkcpaahdlkcdaaGreat
open Go.RowKit
theorem zCL:Tryz.prog.underlying 178=some (.map 3 23):=by kernel_rfl
theorem zVD:Tryz.prog.underlying 181=some (.slice 194):=by kernel_rfl
theorem zyE:(Tryz.prog.info? 194).map (fun i=>(i.zero,i.size,i.bytes))=some (some .nilFunc,1,8):=by kernel_rfl
def slR:Value→Option (DataW Unit×List MemPlace)
 | .slice (some ⟨b,0,none⟩) n c=>some (.agg [.lit (.int .u64 b),.lit (.int .u64 n),.lit (.int .u64 c)],[])
 | .slice none 0 0=>some (.nil,[])
 | _=>none
structure Ck where
 b:Nat
 c:Nat
 bs:List Int
def Ck.d (x:Ck):DataW Unit:=.agg [.lit (.int .u64 x.b),.lit (.int .u64 x.bs.length),.lit (.int .u64 x.c)]
def atF (f:Nat→Option Ck) (k:Int) (z:DataW Unit):DataW Unit:=if 0≤k then (match f k.toNat with | some x=>x.d | none=>z) else z
def KMap (m n:Nat) (f:Nat→Option Ck) (w:World):Prop:=∃ D:DataW Unit,w.ownsMap Tryz.prog 3 slR m n D∧∀ k,okI k→∀ z,D.atKey (.int .i64 k) z=atF f k z
theorem KMap.keep {S:Nat→Prop} {w w':World} {m n:Nat} {f:Nat→Option Ck} (h:KMap m n f w) (hk:Keep S w w') (hS:¬ S m):KMap m n f w':=by
 obtain ⟨D,⟨es,clock,hb,r⟩,h2⟩:=h
 exact ⟨D,⟨es,clock,(hk.block m (gE hb).1 hS).trans hb,r⟩,h2⟩
theorem KMap.lt {w:World} {m n:Nat} {f:Nat→Option Ck} (h:KMap m n f w):m<w.heap.size:=by
 obtain ⟨D,h1,_⟩:=h
 exact h1.lt
theorem KMap.made (w:World):KMap w.heap.size 0 (fun _=>none) (w.alloc (.map #[] 0)) :=
 ⟨.map [],World.ownsMap_made w _ _ _,fun k _ z=>by unfold atF;split <;> rfl⟩
structure KS where
 l0:Nat
 lt:Sl
 m:Nat
 nt:Sl
 lo:Sl
 n:Nat
 f:Nat→Option Ck
def KS.cs (k:KS):Array Value:=#[.map (some k.l0),.slice k.lt.A k.lt.n k.lt.c,.map (some k.m),.slice k.nt.A k.nt.n k.nt.c,.slice k.lo.A k.lo.n k.lo.c]
def KF (s:Nat) (k:KS):Nat→Prop:=fun j=>j=s∨j=k.m∨(Value.slice k.lo.A k.lo.n k.lo.c).ownBlock=some j
structure KAt (s:Nat) (k:KS) (G:Nat→Prop) (w:World):Prop where
 cell:w.heap[s]? = some (.cells k.cs 183 (0,0))
 map:KMap k.m k.n k.f w
 row:∃ fs,w.ownsRow 0 194 1 (.slice k.lo.A k.lo.n k.lo.c) k.lo.n fs
 ro:Foot (fun w=>∀ i x,k.f i=some x→SliceR 1 (.slice (some ⟨x.b,0,none⟩) x.bs.length x.c) x.bs.length (u8s x.bs) w) w G
 sm:s≠k.m
 so:(Value.slice k.lo.A k.lo.n k.lo.c).ownBlock≠some s
 mo:(Value.slice k.lo.A k.lo.n k.lo.c).ownBlock≠some k.m
 g:∀ j,G j→¬ KF s k j
theorem KAt.keep {s:Nat} {k:KS} {G S:Nat→Prop} {w w':World} (h:KAt s k G w) (hk:Keep S w w') (hF:∀ j,KF s k j→¬ S j) (hG:∀ j,G j→¬ S j):KAt s k G w':=by
 obtain ⟨fs,hr⟩:=h.row
 exact ⟨(hk.block s (gE h.cell).1 (hF s (.inl rfl))).trans h.cell,h.map.keep hk (hF _ (.inr (.inl rfl))),⟨fs,zF hr hk (fun j hj=>hF j (.inr (.inr hj)))⟩,h.ro.keep hk hG,h.sm,h.so,h.mo,h.g⟩
theorem KAt.grow {s:Nat} {k:KS} {G:Nat→Prop} {w w':World} (h:KAt s k G w) (hk:Grow w w'):KAt s k G w':=h.keep hk (fun _ _ h=>h) (fun _ _ h=>h)
theorem KAt.small {s:Nat} {k:KS} {G:Nat→Prop} {w:World} (h:KAt s k G w):∀ j,KF s k j→j<w.heap.size:=fun j hj=>by
 obtain ⟨fs,hr⟩:=h.row
 rcases hj with e | e | e
 ·rw [e];exact (gE h.cell).1
 ·rw [e];exact h.map.lt
 ·exact (hr.lt j e).2
theorem KAt.lt {s:Nat} {k:KS} {G:Nat→Prop} {w:World} (h:KAt s k G w):s<w.heap.size:=(gE h.cell).1
theorem zUC (w:World):Calls Tryz.prog 36 #[] w fun e w'=>∃ s k,e=.returned (.pointer (some ⟨s,0,none⟩))∧Grow w w'∧KAt s k NoB w'∧(∀ j,KF s k j→w.heap.size≤j)∧k.f=(fun _=>none)∧k.nt=⟨none,0,0⟩∧k.lo=⟨none,0,0⟩∧k.n=0:=by
 have hm:=@run_makeMap Tryz.prog
 go_enter Tryz.func36,Tryz.ntmps36
 go_wp2
 go_ret
 have hcell:=heap_alloc_new ((w.alloc (.map #[] 0)).alloc (.map #[] 0)) (.cells #[.map (some w.heap.size),.slice none 0 0,.map (some (w.alloc (.map #[] 0)).heap.size),.slice none 0 0,.slice none 0 0] 183)
 have hsz:((w.alloc (.map #[] 0)).alloc (.map #[] 0)).heap.size=w.heap.size+2:=by simp
 have hsz1:(w.alloc (.map #[] 0)).heap.size=w.heap.size+1:=by simp
 rw [hsz,hsz1] at hcell
 refine ⟨w.heap.size+2,⟨w.heap.size,⟨none,0,0⟩,w.heap.size+1,⟨none,0,0⟩,⟨none,0,0⟩,0,fun _=>none⟩,by rfl,(((Keep.refl NoB w).alloc _).alloc _).alloc _,⟨hcell,?_,⟨[],World.ownsRow_nil _ _ _ _⟩,⟨fun k hk=>hk.elim,fun W' _ i x h=>by cases h⟩,by simp,by simp [Value.ownBlock],by simp [Value.ownBlock],fun j hj=>hj.elim⟩,?_,rfl,rfl,rfl,rfl⟩
 ·have h1:=KMap.made (w.alloc (.map #[] 0))
  rw [hsz1] at h1
  exact h1.keep ((Keep.refl NoB _).alloc _) (fun h=>h)
 ·rintro j (h | h | h)
  ·rw [h];omega
  ·rw [h];simp
  ·simp [Value.ownBlock] at h
def KS.clear (k:KS) (m:Nat):KS:={ k with m:=m,n:=0,f:=fun _=>none,nt:=⟨none,0,0⟩ }
theorem KAt.cells {s:Nat} {k:KS} {G:Nat→Prop} {w:World} (h:KAt s k G w):w.cell? ⟨s,0,none⟩=some (.map (some k.l0))∧w.cell? ⟨s,1,none⟩=some (.slice k.lt.A k.lt.n k.lt.c)∧w.cell? ⟨s,2,none⟩=some (.map (some k.m))∧w.cell? ⟨s,3,none⟩=some (.slice k.nt.A k.nt.n k.nt.c)∧w.cell? ⟨s,4,none⟩=some (.slice k.lo.A k.lo.n k.lo.c)∧∀ o,w.frozen? ⟨s,o,none⟩=false :=
 ⟨World.news_of_block h.cell 0 _ rfl,World.news_of_block h.cell 1 _ rfl,World.news_of_block h.cell 2 _ rfl,World.news_of_block h.cell 3 _ rfl,World.news_of_block h.cell 4 _ rfl,fun o=>zN o h.cell⟩
theorem zdA {w:World} {g T:Nat} {cs:Array Value} (h:w.heap[g]? = some (.cells cs T (0,0))) (i:Nat) (v:Value):(w.setCell ⟨g,i,none⟩ v).heap[g]? = some (.cells (cs.setIfInBounds i v) T (0,0)):=by
 simp only [World.setCell,Array.getElem?_modify]
 simp [h]
theorem KAt.lob {s:Nat} {k:KS} {G:Nat→Prop} {w:World} (h:KAt s k G w):∀ j,(Value.slice k.lo.A k.lo.n k.lo.c).ownBlock=some j→j<w.heap.size:=fun j hj=>h.small j (.inr (.inr hj))
theorem zOF {s:Nat} {k:KS} {G:Nat→Prop} {w:World} (h:KAt s k G w):Calls Tryz.prog 219 #[.pointer (some ⟨s,2,none⟩)] w fun e w'=>(∃ v,e=.returned v)∧KAt s (k.clear w.heap.size) NoB w'∧Keep (fun j=>j=s) w w':=by
 have hm:=@run_makeMap Tryz.prog
 have H:=LH h
 obtain ⟨c0,c1,c2,c3,c4,cf⟩:=(h.grow ((Keep.refl NoB w).alloc (.map #[] 0))).cells
 clear h
 go_enter Tryz.func219,Tryz.ntmps219
 go_wp2
 go_end0
 have h:=H.out
 have ha:=h.grow ((Keep.refl NoB w).alloc (.map #[] 0))
 have e1:=zdA ha.cell 2 (.map (some w.heap.size))
 have e2:=zdA e1 3 (.slice none 0 0)
 have hk1:Keep (fun j=>j=s) w (((w.alloc (.map #[] 0)).setCell ⟨s,2,none⟩ (.map (some w.heap.size))).setCell ⟨s,3,none⟩ (.slice none 0 0)):=(((Keep.refl (fun j=>j=s) w).alloc _).setCell (p:=⟨s,2,none⟩) (.inl rfl) _).setCell (p:=⟨s,3,none⟩) (.inl rfl) _
 have hk2:Keep (fun j=>j=s) (w.alloc (.map #[] 0)) (((w.alloc (.map #[] 0)).setCell ⟨s,2,none⟩ (.map (some w.heap.size))).setCell ⟨s,3,none⟩ (.slice none 0 0)):=((Keep.refl (fun j=>j=s) _).setCell (p:=⟨s,2,none⟩) (.inl rfl) _).setCell (p:=⟨s,3,none⟩) (.inl rfl) _
 obtain ⟨fs,hr⟩:=h.row
 have hlt:=h.lt
 refine ⟨⟨_,rfl⟩,⟨e2,(KMap.made w).keep hk2 (by omega),⟨fs,zF hr hk1 (fun j hj e=>h.so (by subst e;exact hj))⟩,⟨fun k hk=>hk.elim,fun W' _ i x h=>by cases h⟩,by show s≠w.heap.size;omega,h.so,fun e=>?_,fun j hj=>hj.elim⟩,hk1⟩
 have:=h.lob _ e
 simp [KS.clear] at this
def KS.step (k:KS) (A:Option Addr) (c:Nat):KS:={ k with lo:=⟨A,k.lo.n+1,c⟩ }
theorem KAt.stepped {s:Nat} {k:KS} {G:Nat→Prop} {w w':World} {A:Option Addr} {c:Nat} {fs:List Value} (h:KAt s k G w) (hap:Apped 0 194 1 (.slice k.lo.A k.lo.n k.lo.c) (.slice A (k.lo.n+1) c) (k.lo.n+1) fs w w' (Value.slice k.lo.A k.lo.n k.lo.c=.slice none 0 0∧1=0)):KAt s (k.step A c) G (w'.setCell ⟨s,4,none⟩ (.slice A (k.lo.n+1) c))∧Keep (fun j=>j=s∨(Value.slice k.lo.A k.lo.n k.lo.c).ownBlock=some j) w (w'.setCell ⟨s,4,none⟩ (.slice A (k.lo.n+1) c)):=by
 have hk0:=hap.grew
 have hkp:Keep (fun j=>(Value.slice k.lo.A k.lo.n k.lo.c).ownBlock=some j) w w':=(Keep.refl _ w).grown hk0 (fun j hj=>.inl hj)
 have hk1:Keep (fun j=>j=s∨(Value.slice k.lo.A k.lo.n k.lo.c).ownBlock=some j) w (w'.setCell ⟨s,4,none⟩ (.slice A (k.lo.n+1) c)):=(hkp.mono (fun _ h=>.inr h)).setCell (p:=⟨s,4,none⟩) (.inl (.inl rfl)) _
 have hs:w'.heap[s]? = _:=(hkp.block s h.lt h.so).trans h.cell
 have hm:¬ (k.m=s∨(Value.slice k.lo.A k.lo.n k.lo.c).ownBlock=some k.m):=fun e=>e.elim (fun e=>h.sm e.symm) h.mo
 have hml:=h.map.lt
 have hlt:=h.lt
 have hne:∀ j,(Value.slice A (k.lo.n+1) c).ownBlock=some j→j≠s∧j≠k.m:=fun j hj=>by
  rcases zu hap j hj with e | e
  ·exact ⟨fun e2=>h.so (by rw [e,e2]),fun e2=>h.mo (by rw [e,e2])⟩
  ·omega
 refine ⟨⟨zdA hs 4 _,h.map.keep hk1 hm,⟨fs,zF hap.own ((Keep.refl (fun j=>j=s) w').setCell (p:=⟨s,4,none⟩) (.inl rfl) _) (fun j hj e=>(hne j hj).1 e)⟩,h.ro.keep hk1 (fun j hj e=>h.g j hj (e.elim .inl (fun e=>.inr (.inr e)))),h.sm,fun e=>(hne _ e).1 rfl,fun e=>(hne _ e).2 rfl,fun j hj e=>?_⟩,hk1⟩
 rcases e with e | e | e
 ·exact h.g j hj (.inl e)
 ·exact h.g j hj (.inr (.inl e))
 ·rcases zu hap j e with e | e
  ·exact h.g j hj (.inr (.inr e))
  ·have:=h.ro.lt hj
   omega
theorem zpJ {s:Nat} {k:KS} {G:Nat→Prop} {w:World} (h:KAt s k G w) (hn:k.lo.n≤4096):Calls Tryz.prog 187 #[.pointer (some ⟨s,0,none⟩),.func (.func 219) #[] #[]] w fun e w'=>(∃ v,e=.returned v)∧∃ A c m,KAt s ((k.clear m).step A c) NoB w'∧Keep (fun j=>j=s∨(Value.slice k.lo.A k.lo.n k.lo.c).ownBlock=some j) w w'∧w.heap.size≤m∧∀ j,(Value.slice A (k.lo.n+1) c).ownBlock=some j→(Value.slice k.lo.A k.lo.n k.lo.c).ownBlock=some j∨w.heap.size≤j:=by
 have H:=LH h
 clear h
 go_enter Tryz.func187,Tryz.ntmps187
 go_wp2_with fail
 refine (zOF H.out).mono ?_
 rintro e w1 ⟨⟨v,rfl⟩,h1,hk⟩
 have HK:=LH hk
 have H1:=LH h1
 clear hk h1
 obtain ⟨c0,c1,c2,c3,c4,cf⟩:=H1.out.cells
 have hlo:(k.clear w.heap.size).lo=k.lo:=rfl
 rw [hlo] at c4
 clear hlo
 obtain ⟨fs,hr⟩:=H1.out.row
 have HR:=LH hr
 clear hr
 go_wp2_with (at_builtin;refine zL _ rfl _ _ 181 181 rfl 0 194 .nilFunc 1 8 zVD zyE rfl (.slice k.lo.A k.lo.n k.lo.c) k.lo.n fs rfl (.slice (some ⟨w1.heap.size,0,none⟩) 1 1) 1 [.func (.func 219) #[] #[]] rfl ?_ (by exact zF HR.out ((Keep.refl NoB w1).alloc _) (fun _ _ h=>h)) (by exact Src.ofSlice _ zVD ⟨w1.heap.size,0,none⟩ 1 1 _ rfl (World.news_of_block (cs:=#[.func (.func 219) #[] #[]]) (t:=194) (fr:=(0,0)) (heap_alloc_new w1 _)) (by simp [Value.oneCell'])) (by simp only [maxLen];omega) (by omega) (by exact Nat.zero_le _);intro v2 w2 hap;refine Hid.out ?_)
 refine LH ?_
 obtain ⟨A2,c2',rfl,_⟩:=zK hap.own
 have hg:=(Keep.refl NoB w1).alloc (.cells #[.func (.func 219) #[] #[]] 194)
 have hst:=(H1.out.grow hg).stepped hap
 have hof:∀ j,(Value.slice A2 (k.lo.n+1) c2').ownBlock=some j→(Value.slice k.lo.A k.lo.n k.lo.c).ownBlock=some j∨w.heap.size≤j:=fun j hj=>(zu hap j hj).imp id (fun e=>by have:=HK.out.size;simp at e;omega)
 have hkk:=(HK.out.mono (T:=fun j=>j=s∨(Value.slice k.lo.A k.lo.n k.lo.c).ownBlock=some j) (fun _ h=>.inl h)).trans ((hg.mono (T:=fun j=>j=s∨(Value.slice k.lo.A k.lo.n k.lo.c).ownBlock=some j) (fun _ h=>h.elim)).trans hst.2 (fun j hj=>.inl hj)) (fun j hj=>.inl hj)
 have HST:=LH hst.1
 have HKK:=LH hkk
 have HOF:=LH hof
 have hcw:w2.cell? ⟨s,4,none⟩=some (.slice k.lo.A k.lo.n k.lo.c)∧∀ o,w2.frozen? ⟨s,o,none⟩=false:=by
  have hh:w2.heap[s]? = _:=(((Keep.refl _ _).grown hap.grew (fun j hj=>.inl hj):Keep (fun j=>(Value.slice k.lo.A k.lo.n k.lo.c).ownBlock=some j) _ _).block s (H1.out.grow hg).lt H1.out.so).trans (H1.out.grow hg).cell
  exact ⟨World.news_of_block hh 4 _ rfl,fun o=>zN o hh⟩
 clear hst hkk hof hap hg c0 c1 c2 c3 c4 cf
 obtain ⟨c4,cf⟩:=hcw
 go_wp2
 go_end0
 exact ⟨⟨_,rfl⟩,A2,c2',_,HST.out,HKK.out,Nat.le_refl _,HOF.out⟩
theorem zJD {s:Nat} {k:KS} {G:Nat→Prop} {w:World} (h:KAt s k G w) (hn:k.lo.n≤4096):Calls Tryz.prog 165 #[.pointer (some ⟨s,0,none⟩)] w fun e w'=>(∃ v,e=.returned v)∧∃ A c m,KAt s ((k.clear m).step A c) NoB w'∧Keep (fun j=>j=s∨(Value.slice k.lo.A k.lo.n k.lo.c).ownBlock=some j) w w'∧w.heap.size≤m∧∀ j,(Value.slice A (k.lo.n+1) c).ownBlock=some j→(Value.slice k.lo.A k.lo.n k.lo.c).ownBlock=some j∨w.heap.size≤j:=by
 have H:=LH h
 clear h
 go_enter Tryz.func165,Tryz.ntmps165
 go_wp2_with fail
 refine (zpJ H.out hn).mono ?_
 rintro e w1 ⟨⟨v,rfl⟩,h1⟩
 have H1:=LH h1
 clear h1
 go_wp2
 go_end0
 exact ⟨⟨_,rfl⟩,H1.out⟩
theorem zzE {i:Nat} (hi:i<512):okI (i:Int):=by
 have h1:IntKind.i64.min = -9223372036854775808:=rfl
 have h2:IntKind.i64.max=9223372036854775807:=rfl
 simp only [okI,Lit.wf,h1,h2,Bool.and_eq_true,decide_eq_true_eq]
 omega
def KS.put (k:KS) (i:Nat) (x:Ck):KS:={ k with n:=k.n+1,f:=fun j=>if j=i then some x else k.f j }
theorem KMap.putD {m n:Nat} {f:Nat→Option Ck} {w w':World} {D:DataW Unit} (hD:∀ k,okI k→∀ z,D.atKey (.int .i64 k) z=atF f k z) (ho:w.ownsMap Tryz.prog 3 slR m n D) (i:Nat) (hi:i<512) (x:Ck) (h':w'.ownsMap Tryz.prog 3 slR m (n+1) (D.put (.int .i64 i) x.d)):KMap m (n+1) (fun j=>if j=i then some x else f j) w':=by
 refine ⟨_,h',fun k hk z=>?_⟩
 by_cases e:k=(i:Int)
 ·subst e
  rw [Maps.atKey_put_same ho.isMap (isKey _)]
  simp [atF]
 ·rw [Maps.atKey_put_other (by intro h;exact e (by injection h)),hD k hk z]
  unfold atF
  by_cases h0:0≤k
  ·have e2:k.toNat≠i:=by omega
   simp [h0,e2]
  ·rw [if_neg h0,if_neg h0]
theorem zGH {s:Nat} {k:KS} {G:Nat→Prop} {w:World} (h:KAt s k G w) (hn:k.n≤4096) (i:Nat) (hi:i<512) (x:Ck) (hx:Foot (SliceR 1 (.slice (some ⟨x.b,0,none⟩) x.bs.length x.c) x.bs.length (u8s x.bs)) w (fun j=>j=x.b)) (hxk:¬ KF s k x.b) (p q:Nat)
    (hp:w.heap[p]? = some (.cells #[.slice (some ⟨x.b,0,none⟩) x.bs.length x.c] 23 (0,0))) (hq:w.heap[q]? = some (.cells #[.int .i64 i] 3 (0,0))) :
    Calls Tryz.prog 232 #[.pointer (some ⟨s,2,none⟩),.pointer (some ⟨p,0,none⟩),.pointer (some ⟨q,0,none⟩)] w fun e w'=>(∃ v,e=.returned v)∧KAt s (k.put i x) (fun j=>G j∨j=x.b) w'∧Keep (fun j=>j=k.m) w w':=by
 obtain ⟨c0,c1,c2,c3,c4,cf⟩:=h.cells
 have zp:w.cell? ⟨p,0,none⟩=_:=World.news_of_block hp 0 _ rfl
 have zq:w.cell? ⟨q,0,none⟩=_:=World.news_of_block hq 0 _ rfl
 obtain ⟨D,ho,hD⟩:=h.map
 obtain ⟨w',hrun,ho',hgr⟩:=(show w.drew.ownsMap _ _ _ _ _ _ from ho).update zNJ zCL (by simp only [maxLen];omega) (key:=.int .i64 i) (val:=.slice (some ⟨x.b,0,none⟩) x.bs.length x.c) (zkL (zzE hi)) (d:=x.d) (ps:=[]) rfl
 have hkp:Keep (fun j=>j=k.m) w w':=((Keep.refl _ w).drew).grown hgr (fun j hj=>.inl (Option.some.inj hj).symm)
 have hN:KAt s (k.put i x) (fun j=>G j∨j=x.b) w':=by
  obtain ⟨fs,hr⟩:=h.row
  have hm:=KMap.putD hD ho i hi x ho'
  have hro:=(h.ro.and hx).keep hkp (fun j hj e=>by
   rcases hj with hj | hj
   ·exact h.g j hj (.inr (.inl e))
   ·exact hxk (.inr (.inl (by rw [← hj,e]))))
  refine ⟨(hkp.block s h.lt h.sm).trans h.cell,hm,⟨fs,zF hr hkp (fun j hj e=>h.mo (by subst e;exact hj))⟩,hro.imp (fun W' hh j y hy=>?_),h.sm,h.so,h.mo,fun j hj=>?_⟩
  ·simp only [KS.put] at hy
   split at hy
   ·cases hy;exact hh.2
   ·exact hh.1 j y hy
  ·rcases hj with hj | hj
   ·exact h.g j hj
   ·rw [hj];exact hxk
 have HN:=LH hN
 have HK:=LH hkp
 clear hN hkp hgr ho' ho hD hx hxk h hn hp hq
 go_enter Tryz.func232,Tryz.ntmps232
 go_wp2
 refine zE [0,1,2,3,4,5,6] [6] [3,4,5] [6] rfl (by kernel_rfl) ?_
 iterate 3
  refine ord_p ?_
 refine oc1 c2 ?_
 refine oc1 zq ?_
 refine oc1 zp ?_
 refine zJ rfl rfl rfl rfl w' ?_ (fun h=>absurd (by simp) h) ?_
 ·go_simp
 refine zD ?_
 go_wp2
 go_end0
 exact ⟨⟨_,rfl⟩,HN.out,HK.out⟩
theorem zYI {d:Par} (h:OkP d):SouOk d.sz (wordQ d):=by
 refine ⟨fun x hx=>by have:=zeE h.fit x hx;omega,fun seg at_=>?_,fun seg at_ he=>?_⟩
 ·unfold wordQ
  split
  ·exact ⟨by decide,by decide⟩
  ·split
   ·show 0≤d.words.getD _ 0∧d.words.getD _ 0≤_
    rcases Nat.lt_or_ge (placeI d.sz seg at_).toNat d.words.length with h9 | h9
    ·rw [List.getD_eq_getElem?_getD,List.getElem?_eq_getElem h9]
     exact h.win _ (List.getElem_mem h9)
    ·rw [List.getD_eq_getElem?_getD,List.getElem?_eq_none h9]
     exact ⟨by decide,by decide⟩
   ·exact ⟨by decide,by decide⟩
 ·have hp:¬ placeI d.sz seg at_<0:=fun h9=>by
    unfold wordQ at he
    rw [if_pos h9] at he
    cases he
  unfold placeI at hp
  split at hp
  ·rename_i hw
   obtain ⟨g1,g2,g3,g4,g5⟩:=of_decide_eq_true hw
   have hs:seg.toNat<d.sz.length:=by omega
   have:=zeE h.fit _ (List.getElem_mem hs)
   rw [List.getD_eq_getElem?_getD,List.getElem?_eq_getElem hs] at g5
   simp only [Option.getD_some] at g5
   omega
  ·omega
def WkAt (g:Nat) (sv:Value) (o:Ob) (left:Int) (w:World):Prop:=w.heap[g]? = some (.cells #[sv,o.kind,.int .i64 o.seg,.int .i64 o.at_,.int .i64 o.data,.int .i64 o.ptrs,o.size,.int .i64 o.count,.int .i64 left] 332 (0,0))
theorem zkA {w:World} {g T:Nat} {a0 a1 a2 a3 a4 a5 a6 a7 a8:Value} (h:w.heap[g]? = some (.cells #[a0,a1,a2,a3,a4,a5,a6,a7,a8] T (0,0))):w.cell? ⟨g,0,none⟩=some a0∧w.cell? ⟨g,1,none⟩=some a1∧w.cell? ⟨g,2,none⟩=some a2∧w.cell? ⟨g,3,none⟩=some a3∧w.cell? ⟨g,4,none⟩=some a4∧w.cell? ⟨g,5,none⟩=some a5∧w.cell? ⟨g,6,none⟩=some a6∧w.cell? ⟨g,7,none⟩=some a7∧w.cell? ⟨g,8,none⟩=some a8∧∀ o,w.frozen? ⟨g,o,none⟩=false :=
 ⟨World.news_of_block h 0 _ rfl,World.news_of_block h 1 _ rfl,World.news_of_block h 2 _ rfl,World.news_of_block h 3 _ rfl,World.news_of_block h 4 _ rfl,World.news_of_block h 5 _ rfl,World.news_of_block h 6 _ rfl,World.news_of_block h 7 _ rfl,World.news_of_block h 8 _ rfl,fun o=>zN o h⟩
def payP (left:Int) (o:Ob):Int:=left-(1+obWords o)
def errP (left:Int):Int:=if left<0 then 22 else 0
theorem zAF {g:Nat} {sv:Value} {o:Ob} {left:Int} {w:World} (h:WkAt g sv o left w) (ho:ObOk o) (hl : -1≤left∧left≤1000000) (hw:0≤obWords o∧obWords o≤1000000000000) :
    Calls Tryz.prog 234 #[.pointer (some ⟨g,0,none⟩)] w fun e w'=>e=.returned (.int .u16 (errP (payP left o)))∧WkAt g sv o (payP left o) w'∧Keep (fun k=>k=g) w w':=by
 have H:=LH h
 have HW:=LH (zSA o w.drew ho)
 have hw1:IntKind.i64.wrap (1+obWords o)=1+obWords o:=IntWalk.i64_in _ (by omega)
 have hw2:IntKind.i64.wrap (left-(1+obWords o))=payP left o:=IntWalk.i64_in _ (by omega)
 obtain ⟨c0,c1,c2,c3,c4,c5,c6,c7,c8,cf⟩:=zkA h
 simp only [Ob.cs] at HW
 clear h ho hl hw
 go_enter Tryz.func234,Tryz.ntmps234
 go_wp2
 refine zE [0,1,2,3,4,5,6,7,8,9,10,11,12,13] [8,13] [3,7] [13] rfl (by kernel_rfl) ?_
 iterate 3
  refine ord_p ?_
 refine oc1 c8 ?_
 iterate 3
  refine ord_p ?_
 refine oc7 c1 c2 c3 c4 c5 c6 c7 ?_
 refine zG rfl rfl rfl rfl rfl Tryz.func264 rfl rfl [.agg o] rfl ?_
 refine HW.out.mono ?_
 rintro e w1 ⟨rfl,hg1⟩
 refine ⟨_,rfl,fun _=>hg1,?_⟩
 simp only [Act.put,pB,pC,pD]
 have hgw:=(Keep.refl NoB w).drew.grow hg1
 have H1:WkAt g sv o left w1:=Grow.heap hgw H.out
 obtain ⟨d0,d1,d2,d3,d4,d5,d6,d7,d8,df⟩:=zkA H1
 iterate 4
  refine ord_p ?_
 refine zJ rfl rfl rfl rfl ?_ ?_ (fun h=>absurd (by simp) h) ?_
 rotate_left
 ·go_simp;with_reducible rfl
 refine zD ?_
 have H2:WkAt g sv o (payP left o) (w1.setCell ⟨g,8,none⟩ (.int .i64 (payP left o))):=zdA H1 8 _
 have hk:Keep (fun k=>k=g) w (w1.setCell ⟨g,8,none⟩ (.int .i64 (payP left o))):=(hgw.mono (fun _ h=>h.elim)).trans (zV g 8 w1 _) (fun k hk=>.inl hk)
 generalize w1.setCell ⟨g,8,none⟩ (.int .i64 (payP left o))=w2 at H2 hk ⊢
 have HF:=LH (And.intro H2 hk)
 clear H1 d0 d1 d2 d3 d4 d5 d6 d7 d8 df c0 c1 c2 c3 c4 c5 c6 c7 c8 cf hgw hg1 hw1 hw2 hk
 obtain ⟨d0,d1,d2,d3,d4,d5,d6,d7,d8,df⟩:=zkA H2
 clear H2
 by_cases hp:payP left o<0
 ·go_wp2
  go_ret
  exact ⟨by unfold errP;rw [if_pos hp];rfl,HF.out.1,HF.out.2⟩
 ·go_wp2
  go_ret
  exact ⟨by unfold errP;rw [if_neg (by omega)];rfl,HF.out.1,HF.out.2⟩
def isV (o:Ob):Value:=.agg #[o.kind,o.size,.int .i64 (if o.kind=2∧o.size≠6 then o.count else o.data),.int .i64 (if o.kind=2∧o.size=6 then o.count else o.ptrs),qN]
theorem zDL {g:Nat} {sv:Value} {o:Ob} {left:Int} {w:World} (h:WkAt g sv o left w) :
    Calls Tryz.prog 236 #[.pointer (some ⟨g,0,none⟩)] w fun e w'=>e=.returned (isV o)∧Grow w w':=by
 have hg:=(Keep.refl NoB w).alloc (.cells qC 86)
 obtain ⟨c0,c1,c2,c3,c4,c5,c6,c7,c8,cf⟩:=zkA (Grow.heap hg h)
 have HG:=LH hg
 clear h hg
 go_enter Tryz.func236,Tryz.ntmps236
 rcases h2:(o.kind==2) with _ | _
 ·have hk:¬ o.kind=2:=by simpa using h2
  have hb:(o.kind != 2)=true:=bne_iff_ne.2 hk
  have E:Hid (isV o=.agg #[o.kind,o.size,.int .i64 o.data,.int .i64 o.ptrs,qN]):=LH (by unfold isV;rw [if_neg (fun h=>hk h.1),if_neg (fun h=>hk h.1)])
  clear hk
  go_wp2
  refine bodyPost_ret (v:=.agg #[o.kind,o.size,.int .i64 o.data,.int .i64 o.ptrs,qN]) ?res rfl ?post
  case res=>rw [zO rfl];go_simp
  case post =>
   refine ⟨by rw [E.out],?_⟩
   exact (((Keep.refl NoB w).alloc _).alloc _).alloc _
 ·have hk:o.kind=2:=by simpa using h2
  have hb:(o.kind != 2)=false:=by rw [hk];rfl
  rcases h6:(o.size==6) with _ | _
  ·have hs:¬ o.size=6:=by simpa using h6
   have E:Hid (isV o=.agg #[o.kind,o.size,.int .i64 o.count,.int .i64 o.ptrs,qN]):=LH (by unfold isV;rw [if_pos ⟨hk,hs⟩,if_neg (fun h=>hs h.2)])
   clear hk hs
   go_wp2
   refine bodyPost_ret (v:=.agg #[o.kind,o.size,.int .i64 o.count,.int .i64 o.ptrs,qN]) ?res rfl ?post
   case res=>rw [zO rfl];go_simp
   case post =>
    refine ⟨by rw [E.out],?_⟩
    exact (((Keep.refl NoB w).alloc _).alloc _).alloc _
  ·have hs:o.size=6:=by simpa using h6
   have E:Hid (isV o=.agg #[o.kind,o.size,.int .i64 o.data,.int .i64 o.count,qN]):=LH (by unfold isV;rw [if_neg (fun h=>h.2 hs),if_pos ⟨hk,hs⟩])
   clear hk hs
   go_wp2
   refine bodyPost_ret (v:=.agg #[o.kind,o.size,.int .i64 o.data,.int .i64 o.count,qN]) ?res rfl ?post
   case res=>rw [zO rfl];go_simp
   case post =>
    refine ⟨by rw [E.out],?_⟩
    exact (((Keep.refl NoB w).alloc _).alloc _).alloc _
def put1V (p q:Nat):Value:=.func (.func 232) #[] #[.pointer (some ⟨p,0,none⟩),.pointer (some ⟨q,0,none⟩)]
theorem zuL {s:Nat} {k:KS} {G:Nat→Prop} {w:World} (h:KAt s k G w) (hn:k.lo.n≤4096) (hn2:k.n≤4096) (i:Nat) (hi:i<512) (x:Ck) (hx:Foot (SliceR 1 (.slice (some ⟨x.b,0,none⟩) x.bs.length x.c) x.bs.length (u8s x.bs)) w (fun j=>j=x.b)) (hxk:¬ KF s k x.b) (p q:Nat)
    (hp:w.heap[p]? = some (.cells #[.slice (some ⟨x.b,0,none⟩) x.bs.length x.c] 23 (0,0))) (hq:w.heap[q]? = some (.cells #[.int .i64 i] 3 (0,0))) :
    Calls Tryz.prog 187 #[.pointer (some ⟨s,0,none⟩),put1V p q] w fun e w'=>(∃ v,e=.returned v)∧∃ A c,KAt s ((k.put i x).step A c) (fun j=>G j∨j=x.b) w'∧Keep (KF s k) w w'∧∀ j,(Value.slice A (k.lo.n+1) c).ownBlock=some j→(Value.slice k.lo.A k.lo.n k.lo.c).ownBlock=some j∨w.heap.size≤j:=by
 have H:=LH h
 have HX:=LH hx
 have HXK:=LH hxk
 have HP:=LH hp
 have HQ:=LH hq
 unfold put1V
 clear h hx hxk hp hq
 go_enter Tryz.func187,Tryz.ntmps187
 go_wp2_with fail
 refine (zGH H.out hn2 i hi x HX.out HXK.out p q HP.out HQ.out).mono ?_
 rintro e w1 ⟨⟨v,rfl⟩,h1,hk⟩
 have HK:=LH hk
 have H1:=LH h1
 clear hk h1
 obtain ⟨c0,c1,c2,c3,c4,cf⟩:=H1.out.cells
 have hlo:(k.put i x).lo=k.lo:=rfl
 rw [hlo] at c4
 clear hlo
 obtain ⟨fs,hr⟩:=H1.out.row
 have HR:=LH hr
 clear hr
 go_wp2_with (at_builtin;refine zL _ rfl _ _ 181 181 rfl 0 194 .nilFunc 1 8 zVD zyE rfl (.slice k.lo.A k.lo.n k.lo.c) k.lo.n fs rfl (.slice (some ⟨w1.heap.size,0,none⟩) 1 1) 1 [put1V p q] rfl ?_ (by exact zF HR.out ((Keep.refl NoB w1).alloc _) (fun _ _ h=>h)) (by exact Src.ofSlice _ zVD ⟨w1.heap.size,0,none⟩ 1 1 _ rfl (World.news_of_block (cs:=#[put1V p q]) (t:=194) (fr:=(0,0)) (heap_alloc_new w1 _)) (by simp [Value.oneCell',put1V])) (by simp only [maxLen];omega) (by omega) (by exact Nat.zero_le _);intro v2 w2 hap;refine Hid.out ?_)
 refine LH ?_
 obtain ⟨A2,c2',rfl,_⟩:=zK hap.own
 have hg:=(Keep.refl NoB w1).alloc (.cells #[put1V p q] 194)
 have hst:=(H1.out.grow hg).stepped hap
 have hof:∀ j,(Value.slice A2 (k.lo.n+1) c2').ownBlock=some j→(Value.slice k.lo.A k.lo.n k.lo.c).ownBlock=some j∨w.heap.size≤j:=fun j hj=>(zu hap j hj).imp id (fun e=>by have:=HK.out.size;simp at e;omega)
 have hkk:=(HK.out.mono (T:=KF s k) (fun _ h=>.inr (.inl h))).trans ((hg.mono (T:=KF s k) (fun _ h=>h.elim)).trans hst.2 (fun j hj=>.inl (hj.elim .inl (fun h=>.inr (.inr h))))) (fun j hj=>.inl hj)
 have HST:=LH hst.1
 have HKK:=LH hkk
 have HOF:=LH hof
 have hcw:w2.cell? ⟨s,4,none⟩=some (.slice k.lo.A k.lo.n k.lo.c)∧∀ o,w2.frozen? ⟨s,o,none⟩=false:=by
  have hh:w2.heap[s]? = _:=(((Keep.refl _ _).grown hap.grew (fun j hj=>.inl hj):Keep (fun j=>(Value.slice k.lo.A k.lo.n k.lo.c).ownBlock=some j) _ _).block s (H1.out.grow hg).lt H1.out.so).trans (H1.out.grow hg).cell
  exact ⟨World.news_of_block hh 4 _ rfl,fun o=>zN o hh⟩
 clear hst hkk hof hap hg c0 c1 c2 c3 c4 cf
 obtain ⟨c4,cf⟩:=hcw
 go_wp2
 go_end0
 exact ⟨⟨_,rfl⟩,A2,c2',HST.out,HKK.out,HOF.out⟩
theorem zVC {s:Nat} {k:KS} {G:Nat→Prop} {w:World} (h:KAt s k G w) (hn:k.lo.n≤4096) (hn2:k.n≤4096) (i:Nat) (hi:i<512) (A:Option Addr) (l:List Int) (c:Nat) (hl:l.length≤64) (h0:0<l.length) (hs:SliceR 1 (.slice A l.length c) l.length (u8s l) w) :
    Calls Tryz.prog 182 #[.pointer (some ⟨s,0,none⟩),.int .i64 i,.slice A l.length c] w fun e w'=>e=.returned (.bool true)∧∃ x A' c',x.bs=l∧KAt s ((k.put i x).step A' c') (fun j=>G j∨j=x.b) w'∧Keep (KF s k) w w'∧w.heap.size≤x.b∧∀ j,(Value.slice A' (k.lo.n+1) c').ownBlock=some j→(Value.slice k.lo.A k.lo.n k.lo.c).ownBlock=some j∨w.heap.size≤j:=by
 have hg0:=((Keep.refl NoB w).alloc (.cells #[.int .i64 i] 3)).alloc (.cells #[.slice A l.length c] 23)
 have hz1:=Grow.heap ((Keep.refl NoB _).alloc (.cells #[.slice A l.length c] 23)) (heap_alloc_new w (.cells #[.int .i64 i] 3))
 have hz2:=heap_alloc_new (w.alloc (.cells #[.int .i64 i] 3)) (.cells #[.slice A l.length c] 23)
 have hsz1:(w.alloc (.cells #[.int .i64 i] 3)).heap.size=w.heap.size+1:=by simp
 rw [hsz1] at hz2
 have H:=LH (h.grow hg0)
 have HS:=LH (hs.grow hg0)
 have HG:=LH hg0
 have HZ1:=LH hz1
 have HZ2:=LH hz2
 have hsm:=h.small
 have HSM:=LH hsm
 have HGM:Hid (∀ j,G j→j<w.heap.size):=LH h.ro.1
 have hl0:(64<(l.length:Int))=False:=by simp;omega
 have hi1:((i:Int)<0)=False:=by simp
 have hi2:((512:Int)≤i)=False:=by simp;omega
 clear h hs hg0 hz1 hz2 hsm
 go_enter Tryz.func182,Tryz.ntmps182
 have y1:((w.alloc (.cells #[.int .i64 i] 3)).alloc (.cells #[.slice A l.length c] 23)).cell? ⟨w.heap.size,0,none⟩=_:=World.news_of_block HZ1.out 0 _ rfl
 have y2:((w.alloc (.cells #[.int .i64 i] 3)).alloc (.cells #[.slice A l.length c] 23)).cell? ⟨w.heap.size+1,0,none⟩=_:=World.news_of_block HZ2.out 0 _ rfl
 go_wp2_with fail
 refine (zlB _ l _ HS.out (by omega)).mono ?_
 rintro e w2 ⟨A2,c2',rfl,ho,hg⟩
 obtain ⟨B,rfl,hB⟩:∃ B,A2=some ⟨B,0,none⟩∧w.heap.size+2≤B:=by
  obtain ⟨A3,c3,e3,_,h3,h4⟩:=zK ho
  cases e3
  rcases A2 with _ | ad
  ·exact absurd (h4 rfl).1 (by omega)
  ·refine ⟨ad.block,h3 ad.block rfl,?_⟩
   have:=(ho.lt ad.block rfl).1
   simp at this
   omega
 replace HZ1:=LH (Grow.heap hg HZ1.out)
 replace HZ2:=LH (Grow.heap hg HZ2.out)
 replace H:=LH (H.out.grow hg)
 replace HG:=LH (HG.out.grow hg)
 have HO:=LH ho
 have y3:w2.cell? ⟨w.heap.size,0,none⟩=_:=World.news_of_block HZ1.out 0 _ rfl
 have y4:w2.cell? ⟨w.heap.size+1,0,none⟩=_:=World.news_of_block HZ2.out 0 _ rfl
 have y5:∀ o,w2.frozen? ⟨w.heap.size+1,o,none⟩=false:=fun o=>zN o HZ2.out
 clear y1 y2 hg ho
 go_wp2_with fail
 have hsz2:=HG.out.size
 have hset:=(Keep.refl (fun j=>j=w.heap.size+1) w2).setCell (p:=⟨w.heap.size+1,0,none⟩) (.inl rfl) (.slice (some ⟨B,0,none⟩) l.length c2')
 have hsm:∀ j,KF s k j→j≠w.heap.size+1:=fun j hj e=>by have:=HSM.out j hj;omega
 have H3:=LH (H.out.keep hset (fun j hj e=>hsm j hj e) (fun j hj e=>by have:=HGM.out j hj;omega))
 refine (zuL H3.out hn hn2 i hi ⟨B,c2',l⟩ ?_ ?_ (w.heap.size+1) w.heap.size ?_ ?_).mono ?_
 ·exact ((Foot.of_own HO.out).keep hset (fun j hj e=>by have hj2:B=j:=Option.some.inj hj;omega)).mono (fun j hj=>by have:=HO.out.lt B rfl;rw [hj];simpa using this.2) (fun j hj=>by cases hj;rfl)
 ·exact fun hh=>by have:=HSM.out _ hh;simp only at this;omega
 ·exact zdA HZ2.out 0 _
 ·exact (hset.block _ (by have:=(gE HZ1.out).1;exact this) (by simp)).trans HZ1.out
 rintro e w5 ⟨⟨v,rfl⟩,A5,c5,h5,hk5,hof⟩
 have HN:=LH h5
 have HF:=LH ((((HG.out.mono (T:=fun j=>j=w.heap.size+1) (fun _ h=>h.elim)).trans hset (fun j hj=>.inl hj)).new (fun i e=>by rw [e];omega)).mono (T:=KF s k) (fun _ h=>h.elim) |>.trans hk5 (fun j hj=>.inl hj))
 have HOF:Hid (∀ j,(Value.slice A5 (k.lo.n+1) c5).ownBlock=some j→(Value.slice k.lo.A k.lo.n k.lo.c).ownBlock=some j∨w.heap.size≤j):=LH (fun j hj=>(hof j hj).imp id (fun h=>by have:=hset.size;omega))
 clear h5 hk5 hof hset hsm y3 y4 y5
 go_wp2
 go_ret
 exact ⟨rfl,⟨B,c2',l⟩,A5,c5,rfl,HN.out,HF.out,by show w.heap.size≤B;omega,HOF.out⟩
theorem zEL (w:World):Calls Tryz.prog 125 #[qI] w fun e w'=>e=.returned (.tuple #[.agg qG,.int .u16 10])∧Grow w w':=by
 have HG:=LH ((Keep.refl NoB w).alloc (.cells qG 104))
 go_enter Tryz.func125,Tryz.ntmps125
 go_wp2
 have HC:=heap_alloc_new w (.cells qG 104)
 have z0:(w.alloc (.cells qG 104)).cell? ⟨w.heap.size,0,none⟩=_:=World.news_of_block HC 0 _ rfl
 have z1:(w.alloc (.cells qG 104)).cell? ⟨w.heap.size,1,none⟩=_:=World.news_of_block HC 1 _ rfl
 have z2:(w.alloc (.cells qG 104)).cell? ⟨w.heap.size,2,none⟩=_:=World.news_of_block HC 2 _ rfl
 have z3:(w.alloc (.cells qG 104)).cell? ⟨w.heap.size,3,none⟩=_:=World.news_of_block HC 3 _ rfl
 refine bodyPost_ret (v:=.tuple #[.agg qG,.int .u16 10]) ?_ rfl ⟨rfl,HG.out⟩
 rw [results_cell_tmp rfl];go_simp
theorem zZI {s:Nat} {k:KS} {G:Nat→Prop} {w:World} (h:KAt s k G w) (hn:k.nt=⟨none,0,0⟩):Calls Tryz.prog 52 #[.pointer (some ⟨s,0,none⟩)] w fun e w'=>e=.returned (.tuple #[.agg qG,qL])∧Grow w w':=by
 have HG:=LH ((Keep.refl NoB w).alloc (.cells qG 104))
 obtain ⟨c0,c1,c2,c3,c4,cf⟩:=(h.grow HG.out).cells
 rw [hn] at c3
 clear h hn
 go_enter Tryz.func52,Tryz.ntmps52
 go_wp2_with fail
 refine (zEL _).mono ?_
 rintro e w2 ⟨rfl,hg⟩
 have HB:=LH (Grow.heap hg (heap_alloc_new w (.cells qG 104)))
 have HG2:=LH (HG.out.grow hg)
 clear hg c0 c1 c2 c3 c4 cf
 have HG3:=LH ((Keep.refl NoB w2).alloc (.cells qG 104))
 have HN:=LH (heap_alloc_new w2 (.cells qG 104))
 obtain ⟨z0,z1,z2,z3,zf⟩:=zLA (Grow.heap HG3.out HB.out)
 obtain ⟨y0,y1,y2,y3,yf⟩:=zLA HN.out
 have HS:=LH (zaE (.int .u64 0) (.slice none 0 0) (.int .u32 0) (.slice none 0 0) (HG2.out.grow HG3.out) (by simp) (Grow.heap HG3.out HB.out))
 clear HG3
 go_wp2
 obtain ⟨r0,r1,r2,r3,rf⟩:=zLA HS.out.1
 refine bodyPost_ret (v:=.tuple #[.agg qG,qL]) ?_ rfl ⟨rfl,HS.out.2⟩
 rw [results_cell_tmp rfl];go_simp
end Go.Proofs.YtfkcpaahdlkcdaaGreat

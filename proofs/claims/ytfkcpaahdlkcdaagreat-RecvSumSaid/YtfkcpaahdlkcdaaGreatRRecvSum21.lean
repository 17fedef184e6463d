import Derived.Test.YtfkcpaahdlkcdaaGreatRRecvSum20
set_option linter.unusedSimpArgs false
set_option linter.unusedVariables false
set_option maxRecDepth 100000
set_option maxHeartbeats 16000000
namespace Go.Proofs.YtfkcpaahdlkcdaaGreat
open Go.RowKit
theorem zYK {sz:List Int} {wd:Int→Int→Int×Int} (h:SouOk sz wd) {seg at_:Int} (h1:(ptrAt wd seg at_).2=0):0≤seg∧0≤at_∧at_≤100000:=by
 refine h.inb seg at_ ?_
 unfold ptrAt at h1
 split at h1
 ·assumption
 ·exact h1
theorem zMJ {sz:List Int} {wd:Int→Int→Int×Int} (h:SouOk sz wd) (p:Pt):ObOk (twiceO wd p).1:=by
 unfold twiceO
 repeat' split
 all_goals first | exact zLI | exact zsA (zZB _ (h.val _ _).1) _ _
theorem zgA (a:List (List Int)) (ho:OkA a) (A:Option Addr) (c:Nat) (w:World) (h:RowsR .u64 a (.slice A a.length c) w) (seg at_:Int):Calls Tryz.prog 173 #[.agg #[.slice A a.length c,.bool false,.slice none 0 0],.int .i64 seg,.int .i64 at_] w (QFPost (followP (szs a) (wordA a) seg at_) w):=by
 have hga:=(Keep.refl NoB w).alloc (.cells #[.slice A a.length c,.bool false,.slice none 0 0] 186)
 have hgb:=hga.alloc (.cells #[.int .i64 0,.int .i64 0,.int .i64 0,.int .i64 0,.int .i64 0,.int .i64 0,.int .i64 0] 257)
 have h2:=zU w (.cells #[.slice A a.length c,.bool false,.slice none 0 0] 186) (.cells #[.int .i64 0,.int .i64 0,.int .i64 0,.int .i64 0,.int .i64 0,.int .i64 0,.int .i64 0] 257)
 have HZ:=LH h2.2.1
 have HS:=LH h2.1
 have HG:=LH hgb
 have H:=LH (h.grow hgb)
 have HA:=LH ho
 have hso:=zu ho
 have HSO:=LH hso
 have E0:Hid (followP (szs a) (wordA a) seg at_=if (ptrAt (wordA a) seg at_).2=0∧(ptrAt (wordA a) seg at_).1.kind≠0 then
  if isNear (ptrAt (wordA a) seg at_).1 then foundO (szs a) (obOf (ptrAt (wordA a) seg at_).1 seg (at_+1+(ptrAt (wordA a) seg at_).1.off))
  else if (ptrAt (wordA a) seg at_).1.dbl then twiceP (szs a) (wordA a) (ptrAt (wordA a) seg at_).1
  else landedP (szs a) (wordA a) (ptrAt (wordA a) seg at_).1
 else (ob0,(ptrAt (wordA a) seg at_).2)):=LH rfl
 have HPO:=LH (zSB hso seg at_)
 have HIN:=LH (zYK hso (seg:=seg) (at_:=at_))
 have HPT:=LH (zFE a ho A c _ (h.grow hgb) seg at_)
 have HQ:Hid (∀ e w' w0,QPAPost (wordA a) seg at_ w0 e w'→e=.returned (.tuple #[.agg #[.int .i64 (ptrAt (wordA a) seg at_).1.kind,.int .i64 (ptrAt (wordA a) seg at_).1.off,.int .i64 (ptrAt (wordA a) seg at_).1.data,.int .i64 (ptrAt (wordA a) seg at_).1.ptrs,.int .i64 (ptrAt (wordA a) seg at_).1.size,.int .i64 (ptrAt (wordA a) seg at_).1.count,.int .i64 (ptrAt (wordA a) seg at_).1.seg,.bool (ptrAt (wordA a) seg at_).1.dbl],.int .i64 (ptrAt (wordA a) seg at_).2])∧Grow w0 w'):=LH (fun _ _ _ h=>h)
 obtain ⟨m0,m1,m2,mf⟩:=zI HS.out
 clear h ho hga hgb h2 hso
 go_enter Tryz.func173,Tryz.ntmps173
 go_wp2_with fail
 refine HPT.out.mono ?_
 intro e w1 hpost
 replace hpost:=HQ.out _ _ _ hpost
 clear HPT HQ
 generalize ptrAt (wordA a) seg at_=RP at *
 obtain ⟨rfl,hg⟩:=hpost
 have hg8:=(Keep.refl NoB w1).alloc (.cells #[.int .i64 RP.1.kind,.int .i64 RP.1.off,.int .i64 RP.1.data,.int .i64 RP.1.ptrs,.int .i64 RP.1.size,.int .i64 RP.1.count,.int .i64 RP.1.seg,.bool RP.1.dbl] 120)
 have HP8:=LH (heap_alloc_new w1 (.cells #[.int .i64 RP.1.kind,.int .i64 RP.1.off,.int .i64 RP.1.data,.int .i64 RP.1.ptrs,.int .i64 RP.1.size,.int .i64 RP.1.count,.int .i64 RP.1.seg,.bool RP.1.dbl] 120))
 have hz1:=Grow.heap hg HZ.out
 have hb1:w.heap.size+1<w1.heap.size:=(gE hz1).1
 have hne1:w1.heap.size≠w.heap.size+1:=by omega
 have hne2:w.heap.size+1≠w1.heap.size:=by omega
 replace HZ:=LH (Grow.heap hg8 hz1)
 replace HS:=LH (Grow.heap (hg.grow hg8) HS.out)
 replace HG:=LH (HG.out.grow (hg.grow hg8))
 replace H:=LH (H.out.grow (hg.grow hg8))
 clear hg hg8 hz1 hb1 m0 m1 m2 mf
 obtain ⟨c0,c1,c2,c3,c4,c5,c6,c7,cf⟩:=zO HP8.out
 by_cases he:RP.2=0
 case neg =>
  have heb:(RP.2 != 0)=true:=by simp [he]
  replace E0:=LH (E0.out.trans (if_neg (fun h=>he h.1)))
  clear he
  obtain ⟨y0,y1,y2,y3,y4,y5,y6,yf⟩:=zC HZ.out
  go_wp2
  refine ret7 HG.out (Nat.le_succ _) HZ.out (fun w' z0 z1 z2 z3 z4 z5 z6 zf=>?_) rfl (fun w' hg=>⟨by rw [E0.out];rfl,hg⟩)
  rw [results_cell_tmp rfl];go_simp
 have heb:(RP.2 != 0)=false:=by simp [he]
 by_cases hk0:RP.1.kind=0
 case pos =>
  have hkb:(RP.1.kind==0)=true:=by simp [hk0]
  replace E0:=LH (E0.out.trans (if_neg (fun h=>h.2 hk0)))
  clear he hk0
  obtain ⟨y0,y1,y2,y3,y4,y5,y6,yf⟩:=zC HZ.out
  go_wp2
  refine ret7 HG.out (Nat.le_succ _) HZ.out (fun w' z0 z1 z2 z3 z4 z5 z6 zf=>?_) rfl (fun w' hg=>⟨by rw [E0.out];rfl,hg⟩)
  rw [results_cell_tmp rfl];go_simp
 have hkb:(RP.1.kind==0)=false:=by simp [hk0]
 replace E0:=LH (E0.out.trans (if_pos ⟨he,hk0⟩))
 obtain ⟨hi0,hi1,hi2⟩:=HIN.out he
 clear he hk0
 go_wp2_with fail
 refine (show Calls Tryz.prog 224 #[.agg #[.int .i64 RP.1.kind,.int .i64 RP.1.off,.int .i64 RP.1.data,.int .i64 RP.1.ptrs,.int .i64 RP.1.size,.int .i64 RP.1.count,.int .i64 RP.1.seg,.bool RP.1.dbl]] _ (fun e w'=>e=.returned (.bool (isNear RP.1))∧Grow _ w') from zGC RP.1 _).mono ?_
 rintro e w3 ⟨rfl,hg⟩
 replace HP8:=LH (Grow.heap hg HP8.out)
 replace HS:=LH (Grow.heap hg HS.out)
 replace HZ:=LH (Grow.heap hg HZ.out)
 replace HG:=LH (HG.out.grow hg)
 replace H:=LH (H.out.grow hg)
 clear hg c0 c1 c2 c3 c4 c5 c6 c7 cf heb hkb
 obtain ⟨c0,c1,c2,c3,c4,c5,c6,c7,cf⟩:=zO HP8.out
 obtain ⟨m0,m1,m2,mf⟩:=zI HS.out
 have hpo:=HPO.out.o
 have hwa:IntKind.i64.wrap (at_+1)=at_+1:=IntWalk.i64_in _ (by omega)
 have hwb:IntKind.i64.wrap (at_+1+RP.1.off)=at_+1+RP.1.off:=IntWalk.i64_in _ (by omega)
 rcases hnr:isNear RP.1 with _ | _
 case true =>
  replace E0:=LH (E0.out.trans (if_pos hnr))
  clear hnr
  obtain ⟨F,HFO⟩:∃ F,Hid (foundO (szs a) (obOf RP.1 seg (at_+1+RP.1.off))=F):=⟨_,LH rfl⟩
  replace E0:=LH (E0.out.trans HFO.out)
  go_wp2
  refine zJC NoB [0,1,2,3,4,5,6,7] [] [0,1,6] [14] #[true,true,true,true,true,true,true,true,false,false,false,false,false,false,false,false] 8 rfl (by kernel_rfl) ?_
  refine ord_r (y:=by intro w' hg;have q0:=hg.cell m0 (fun h=>h);have q1:=hg.cell m1 (fun h=>h);have q2:=hg.cell m2 (fun h=>h);go_simp;with_reducible rfl) (z:=?_)
  refine ord_r (y:=by intro w' hg;have q0:=hg.cell c0 (fun h=>h);have q1:=hg.cell c1 (fun h=>h);have q2:=hg.cell c2 (fun h=>h);have q3:=hg.cell c3 (fun h=>h);have q4:=hg.cell c4 (fun h=>h);have q5:=hg.cell c5 (fun h=>h);have q6:=hg.cell c6 (fun h=>h);have q7:=hg.cell c7 (fun h=>h);go_simp;with_reducible rfl) (z:=?_)
  iterate 4
   refine ord_p ?_
  refine ord_r (y:=by intro w' hg;have q:=hg.cell c1 (fun h=>h);go_simp;with_reducible rfl) (z:=?_)
  refine ord_p ?_
  clear c0 c1 c2 c3 c4 c5 c6 c7 cf m0 m1 m2 mf
  refine zF ?_
  have hgd:=(Keep.refl NoB w3).drew
  replace HZ:=LH (Grow.heap hgd HZ.out)
  replace HG:=LH (HG.out.grow hgd)
  replace H:=LH (H.out.grow hgd)
  clear hgd
  refine zRB 8 13 #[true,true,true,true,true,true,true,true,true,false,false,false,false,false,false,false] #[true,true,true,true,true,true,true,true,false,false,false,false,false,true,false,false] (by kernel_rfl) ?_ ?_
  ·
   refine zG rfl rfl rfl rfl rfl Tryz.func226 rfl rfl [.agg #[.int .i64 RP.1.kind,.int .i64 RP.1.off,.int .i64 RP.1.data,.int .i64 RP.1.ptrs,.int .i64 RP.1.size,.int .i64 RP.1.count,.int .i64 RP.1.seg,.bool RP.1.dbl],.int .i64 seg,.int .i64 (at_+1+RP.1.off)] rfl ?_
   refine (show Calls Tryz.prog 226 #[.agg #[.int .i64 RP.1.kind,.int .i64 RP.1.off,.int .i64 RP.1.data,.int .i64 RP.1.ptrs,.int .i64 RP.1.size,.int .i64 RP.1.count,.int .i64 RP.1.seg,.bool RP.1.dbl],.int .i64 seg,.int .i64 (at_+1+RP.1.off)] _ (QObPost (obOf RP.1 seg (at_+1+RP.1.off)) _) from zQB RP.1 seg (at_+1+RP.1.off) _).mono ?_
   rintro e wA ⟨rfl,hg⟩
   refine ⟨_,rfl,fun _=>hg,?_⟩
   replace HZ:=LH (Grow.heap hg HZ.out)
   replace HG:=LH (HG.out.grow hg)
   replace H:=LH (H.out.grow hg)
   have hgA:=hg
   clear hg
   simp only [Act.put,pB,pC,pD]
   refine zF ?_
   refine zRB 9 13 #[true,true,true,true,true,true,true,true,true,true,false,false,false,false,false,false] #[true,true,true,true,true,true,true,true,true,false,false,false,false,true,false,false] (by kernel_rfl) ?_ ?_
   ·
    refine zG rfl rfl rfl rfl rfl Tryz.func225 rfl rfl [(.agg #[.slice A a.length c,.bool false,.slice none 0 0]),.agg #[.int .i64 (obOf RP.1 seg (at_+1+RP.1.off)).kind,.int .i64 (obOf RP.1 seg (at_+1+RP.1.off)).seg,.int .i64 (obOf RP.1 seg (at_+1+RP.1.off)).at_,.int .i64 (obOf RP.1 seg (at_+1+RP.1.off)).data,.int .i64 (obOf RP.1 seg (at_+1+RP.1.off)).ptrs,.int .i64 (obOf RP.1 seg (at_+1+RP.1.off)).size,.int .i64 (obOf RP.1 seg (at_+1+RP.1.off)).count]] rfl ?_
    refine (show Calls Tryz.prog 225 #[(.agg #[.slice A a.length c,.bool false,.slice none 0 0]),.agg #[.int .i64 (obOf RP.1 seg (at_+1+RP.1.off)).kind,.int .i64 (obOf RP.1 seg (at_+1+RP.1.off)).seg,.int .i64 (obOf RP.1 seg (at_+1+RP.1.off)).at_,.int .i64 (obOf RP.1 seg (at_+1+RP.1.off)).data,.int .i64 (obOf RP.1 seg (at_+1+RP.1.off)).ptrs,.int .i64 (obOf RP.1 seg (at_+1+RP.1.off)).size,.int .i64 (obOf RP.1 seg (at_+1+RP.1.off)).count]] _ (QFPost (foundO (szs a) (obOf RP.1 seg (at_+1+RP.1.off))) _) from zIA a HA.out A c _ H.out (obOf RP.1 seg (at_+1+RP.1.off)) (zsA HPO.out seg (at_+1+RP.1.off))).mono ?_
    rintro e wB ⟨rfl,hg⟩
    refine ⟨_,rfl,fun _=>hg,?_⟩
    rw [HFO.out]
    replace HZ:=LH (Grow.heap hg HZ.out)
    replace HG:=LH (HG.out.grow hg)
    replace H:=LH (H.out.grow hg)
    have hgB:=hg
    clear hg
    simp only [Act.put,pB,pC,pD]
    refine zF ?_
    refine zCH (n:=3) [10,11,12] [] [] #[true,true,true,true,true,true,true,true,true,true,true,true,true,false,false,false] (by kernel_rfl) ?_
    iterate 3
     refine ord_p ?_
    refine zF ?_
    refine zqA [13,14,15] [13,14,15] [] (by kernel_rfl) ?_
    refine zl rfl rfl rfl rfl ?_ ?_ ?_ ?_ ?_ ?_
    rotate_left 3
    ·go_simp;first | with_reducible rfl | (constructor <;> with_reducible rfl)
    ·simp only [Act.put,pB,pC,pD];rfl
    have hzn:=heap_alloc_new wB (.cells #[.int .i64 0,.int .i64 0,.int .i64 0,.int .i64 0,.int .i64 0,.int .i64 0,.int .i64 0] 257)
    have hgn:=(Keep.refl NoB wB).alloc (.cells #[.int .i64 0,.int .i64 0,.int .i64 0,.int .i64 0,.int .i64 0,.int .i64 0,.int .i64 0] 257)
    have hbn:w.heap.size+1<wB.heap.size:=by have:=(gE HZ.out).1;exact this
    obtain ⟨T,hT⟩:∃ T,wB.heap.size=T:=⟨_,rfl⟩
    generalize wB.alloc (.cells #[.int .i64 0,.int .i64 0,.int .i64 0,.int .i64 0,.int .i64 0,.int .i64 0,.int .i64 0] 257)=wN at hzn hgn ⊢
    skip
    rw [hT] at hzn hbn ⊢
    clear hT
    have HT:=LH hzn
    have HB:=LH hbn
    replace HZ:=LH (Grow.heap hgn HZ.out)
    replace HG:=LH (HG.out.grow hgn)
    replace H:=LH (H.out.grow hgn)
    clear hzn hgn hbn
    have hzt:=HT.out
    obtain ⟨t0,t1,t2,t3,t4,t5,t6,tf⟩:=zC hzt
    have hbt:=HB.out
    refine zhB hzt ?_
    intro wT hkt hst
    have HGT:=LH (HG.out.trans hkt (fun j hj=>.inr (by omega)))
    have HZT:=LH ((hkt.block (w.heap.size+1) (gE HZ.out).1 (by omega)).trans HZ.out)
    have HST:=LH hst
    clear hkt hst hzt t0 t1 t2 t3 t4 t5 t6 tf
    refine ord_s ?_
    refine zF ?_
    obtain ⟨t0,t1,t2,t3,t4,t5,t6,tf⟩:=zC HST.out
    have hneT:w.heap.size+1≠T:=by have:=HB.out;omega
    have hneT2:T≠w.heap.size+1:=fun e=>hneT e.symm
    obtain ⟨y0,y1,y2,y3,y4,y5,y6,yf⟩:=zC HZT.out
    go_wp2
    refine ret7 HGT.out (Nat.le_succ _) HZT.out (fun w' z0 z1 z2 z3 z4 z5 z6 zf=>?_) rfl (fun w' hg=>⟨by rw [E0.out],hg⟩)
    rw [results_cell_tmp rfl];go_simp
   ·
    refine zl rfl rfl rfl rfl ?_ ?_ ?_ ?_ ?_ ?_
    rotate_left 3
    ·go_simp;first | with_reducible rfl | (constructor <;> with_reducible rfl)
    ·simp only [Act.put,pB,pC,pD];rfl
    have hzn:=heap_alloc_new wA (.cells #[.int .i64 0,.int .i64 0,.int .i64 0,.int .i64 0,.int .i64 0,.int .i64 0,.int .i64 0] 257)
    have hgn:=(Keep.refl NoB wA).alloc (.cells #[.int .i64 0,.int .i64 0,.int .i64 0,.int .i64 0,.int .i64 0,.int .i64 0,.int .i64 0] 257)
    have hbn:w.heap.size+1<wA.heap.size:=by have:=(gE HZ.out).1;exact this
    obtain ⟨T,hT⟩:∃ T,wA.heap.size=T:=⟨_,rfl⟩
    generalize wA.alloc (.cells #[.int .i64 0,.int .i64 0,.int .i64 0,.int .i64 0,.int .i64 0,.int .i64 0,.int .i64 0] 257)=wN at hzn hgn ⊢
    skip
    rw [hT] at hzn hbn ⊢
    clear hT
    have HT:=LH hzn
    have HB:=LH hbn
    replace HZ:=LH (Grow.heap hgn HZ.out)
    replace HG:=LH (HG.out.grow hgn)
    replace H:=LH (H.out.grow hgn)
    clear hzn hgn hbn
    refine zF ?_
    refine zqA [9,10,11,12,14,15] [9,14,15] [] (by kernel_rfl) ?_
    refine zG rfl rfl rfl rfl rfl Tryz.func225 rfl rfl [(.agg #[.slice A a.length c,.bool false,.slice none 0 0]),.agg #[.int .i64 (obOf RP.1 seg (at_+1+RP.1.off)).kind,.int .i64 (obOf RP.1 seg (at_+1+RP.1.off)).seg,.int .i64 (obOf RP.1 seg (at_+1+RP.1.off)).at_,.int .i64 (obOf RP.1 seg (at_+1+RP.1.off)).data,.int .i64 (obOf RP.1 seg (at_+1+RP.1.off)).ptrs,.int .i64 (obOf RP.1 seg (at_+1+RP.1.off)).size,.int .i64 (obOf RP.1 seg (at_+1+RP.1.off)).count]] rfl ?_
    refine (show Calls Tryz.prog 225 #[(.agg #[.slice A a.length c,.bool false,.slice none 0 0]),.agg #[.int .i64 (obOf RP.1 seg (at_+1+RP.1.off)).kind,.int .i64 (obOf RP.1 seg (at_+1+RP.1.off)).seg,.int .i64 (obOf RP.1 seg (at_+1+RP.1.off)).at_,.int .i64 (obOf RP.1 seg (at_+1+RP.1.off)).data,.int .i64 (obOf RP.1 seg (at_+1+RP.1.off)).ptrs,.int .i64 (obOf RP.1 seg (at_+1+RP.1.off)).size,.int .i64 (obOf RP.1 seg (at_+1+RP.1.off)).count]] _ (QFPost (foundO (szs a) (obOf RP.1 seg (at_+1+RP.1.off))) _) from zIA a HA.out A c _ H.out (obOf RP.1 seg (at_+1+RP.1.off)) (zsA HPO.out seg (at_+1+RP.1.off))).mono ?_
    rintro e wB ⟨rfl,hg⟩
    refine ⟨_,rfl,fun _=>hg,?_⟩
    rw [HFO.out]
    replace HZ:=LH (Grow.heap hg HZ.out)
    replace HG:=LH (HG.out.grow hg)
    replace H:=LH (H.out.grow hg)
    have hgB:=hg
    clear hg
    simp only [Act.put,pB,pC,pD]
    replace HT:=LH (Grow.heap hgB HT.out)
    iterate 3
     refine ord_p ?_
    have hzt:=HT.out
    obtain ⟨t0,t1,t2,t3,t4,t5,t6,tf⟩:=zC hzt
    have hbt:=HB.out
    refine zhB hzt ?_
    intro wT hkt hst
    have HGT:=LH (HG.out.trans hkt (fun j hj=>.inr (by omega)))
    have HZT:=LH ((hkt.block (w.heap.size+1) (gE HZ.out).1 (by omega)).trans HZ.out)
    have HST:=LH hst
    clear hkt hst hzt t0 t1 t2 t3 t4 t5 t6 tf
    refine ord_s ?_
    refine zF ?_
    obtain ⟨t0,t1,t2,t3,t4,t5,t6,tf⟩:=zC HST.out
    have hneT:w.heap.size+1≠T:=by have:=HB.out;omega
    have hneT2:T≠w.heap.size+1:=fun e=>hneT e.symm
    obtain ⟨y0,y1,y2,y3,y4,y5,y6,yf⟩:=zC HZT.out
    go_wp2
    refine ret7 HGT.out (Nat.le_succ _) HZT.out (fun w' z0 z1 z2 z3 z4 z5 z6 zf=>?_) rfl (fun w' hg=>⟨by rw [E0.out],hg⟩)
    rw [results_cell_tmp rfl];go_simp
  ·
   refine zl rfl rfl rfl rfl ?_ ?_ ?_ ?_ ?_ ?_
   rotate_left 3
   ·go_simp;first | with_reducible rfl | (constructor <;> with_reducible rfl)
   ·simp only [Act.put,pB,pC,pD];rfl
   have hzn:=heap_alloc_new w3.drew (.cells #[.int .i64 0,.int .i64 0,.int .i64 0,.int .i64 0,.int .i64 0,.int .i64 0,.int .i64 0] 257)
   have hgn:=(Keep.refl NoB w3.drew).alloc (.cells #[.int .i64 0,.int .i64 0,.int .i64 0,.int .i64 0,.int .i64 0,.int .i64 0,.int .i64 0] 257)
   have hbn:w.heap.size+1<w3.drew.heap.size:=by have:=(gE HZ.out).1;exact this
   obtain ⟨T,hT⟩:∃ T,w3.heap.size=T:=⟨_,rfl⟩
   generalize w3.drew.alloc (.cells #[.int .i64 0,.int .i64 0,.int .i64 0,.int .i64 0,.int .i64 0,.int .i64 0,.int .i64 0] 257)=wN at hzn hgn ⊢
   rw [show w3.drew.heap.size=w3.heap.size from rfl] at hzn hbn
   rw [hT] at hzn hbn ⊢
   clear hT
   have HT:=LH hzn
   have HB:=LH hbn
   replace HZ:=LH (Grow.heap hgn HZ.out)
   replace HG:=LH (HG.out.grow hgn)
   replace H:=LH (H.out.grow hgn)
   clear hzn hgn hbn
   refine zF ?_
   refine zqA [8,9,10,11,12,14,15] [8,9,14,15] [] (by kernel_rfl) ?_
   refine zG rfl rfl rfl rfl rfl Tryz.func226 rfl rfl [.agg #[.int .i64 RP.1.kind,.int .i64 RP.1.off,.int .i64 RP.1.data,.int .i64 RP.1.ptrs,.int .i64 RP.1.size,.int .i64 RP.1.count,.int .i64 RP.1.seg,.bool RP.1.dbl],.int .i64 seg,.int .i64 (at_+1+RP.1.off)] rfl ?_
   refine (show Calls Tryz.prog 226 #[.agg #[.int .i64 RP.1.kind,.int .i64 RP.1.off,.int .i64 RP.1.data,.int .i64 RP.1.ptrs,.int .i64 RP.1.size,.int .i64 RP.1.count,.int .i64 RP.1.seg,.bool RP.1.dbl],.int .i64 seg,.int .i64 (at_+1+RP.1.off)] _ (QObPost (obOf RP.1 seg (at_+1+RP.1.off)) _) from zQB RP.1 seg (at_+1+RP.1.off) _).mono ?_
   rintro e wA ⟨rfl,hg⟩
   refine ⟨_,rfl,fun _=>hg,?_⟩
   replace HZ:=LH (Grow.heap hg HZ.out)
   replace HG:=LH (HG.out.grow hg)
   replace H:=LH (H.out.grow hg)
   have hgA:=hg
   clear hg
   simp only [Act.put,pB,pC,pD]
   replace HT:=LH (Grow.heap hgA HT.out)
   refine zG rfl rfl rfl rfl rfl Tryz.func225 rfl rfl [(.agg #[.slice A a.length c,.bool false,.slice none 0 0]),.agg #[.int .i64 (obOf RP.1 seg (at_+1+RP.1.off)).kind,.int .i64 (obOf RP.1 seg (at_+1+RP.1.off)).seg,.int .i64 (obOf RP.1 seg (at_+1+RP.1.off)).at_,.int .i64 (obOf RP.1 seg (at_+1+RP.1.off)).data,.int .i64 (obOf RP.1 seg (at_+1+RP.1.off)).ptrs,.int .i64 (obOf RP.1 seg (at_+1+RP.1.off)).size,.int .i64 (obOf RP.1 seg (at_+1+RP.1.off)).count]] rfl ?_
   refine (show Calls Tryz.prog 225 #[(.agg #[.slice A a.length c,.bool false,.slice none 0 0]),.agg #[.int .i64 (obOf RP.1 seg (at_+1+RP.1.off)).kind,.int .i64 (obOf RP.1 seg (at_+1+RP.1.off)).seg,.int .i64 (obOf RP.1 seg (at_+1+RP.1.off)).at_,.int .i64 (obOf RP.1 seg (at_+1+RP.1.off)).data,.int .i64 (obOf RP.1 seg (at_+1+RP.1.off)).ptrs,.int .i64 (obOf RP.1 seg (at_+1+RP.1.off)).size,.int .i64 (obOf RP.1 seg (at_+1+RP.1.off)).count]] _ (QFPost (foundO (szs a) (obOf RP.1 seg (at_+1+RP.1.off))) _) from zIA a HA.out A c _ H.out (obOf RP.1 seg (at_+1+RP.1.off)) (zsA HPO.out seg (at_+1+RP.1.off))).mono ?_
   rintro e wB ⟨rfl,hg⟩
   refine ⟨_,rfl,fun _=>hg,?_⟩
   rw [HFO.out]
   replace HZ:=LH (Grow.heap hg HZ.out)
   replace HG:=LH (HG.out.grow hg)
   replace H:=LH (H.out.grow hg)
   have hgB:=hg
   clear hg
   simp only [Act.put,pB,pC,pD]
   replace HT:=LH (Grow.heap hgB HT.out)
   iterate 3
    refine ord_p ?_
   have hzt:=HT.out
   obtain ⟨t0,t1,t2,t3,t4,t5,t6,tf⟩:=zC hzt
   have hbt:=HB.out
   refine zhB hzt ?_
   intro wT hkt hst
   have HGT:=LH (HG.out.trans hkt (fun j hj=>.inr (by omega)))
   have HZT:=LH ((hkt.block (w.heap.size+1) (gE HZ.out).1 (by omega)).trans HZ.out)
   have HST:=LH hst
   clear hkt hst hzt t0 t1 t2 t3 t4 t5 t6 tf
   refine ord_s ?_
   refine zF ?_
   obtain ⟨t0,t1,t2,t3,t4,t5,t6,tf⟩:=zC HST.out
   have hneT:w.heap.size+1≠T:=by have:=HB.out;omega
   have hneT2:T≠w.heap.size+1:=fun e=>hneT e.symm
   obtain ⟨y0,y1,y2,y3,y4,y5,y6,yf⟩:=zC HZT.out
   go_wp2
   refine ret7 HGT.out (Nat.le_succ _) HZT.out (fun w' z0 z1 z2 z3 z4 z5 z6 zf=>?_) rfl (fun w' hg=>⟨by rw [E0.out],hg⟩)
   rw [results_cell_tmp rfl];go_simp
 case false =>
  replace E0:=LH (E0.out.trans (if_neg (by rw [hnr];simp)))
  clear hnr hwa hwb
  rcases hdb:RP.1.dbl with _ | _
  case true =>
   replace E0:=LH ((E0.out.trans (if_pos hdb)).trans (zLJ _ _ _))
   have HDC:=LH (show Calls Tryz.prog 227 #[.agg #[.slice A a.length c,.bool false,.slice none 0 0],.agg #[.int .i64 RP.1.kind,.int .i64 RP.1.off,.int .i64 RP.1.data,.int .i64 RP.1.ptrs,.int .i64 RP.1.size,.int .i64 RP.1.count,.int .i64 RP.1.seg,.bool RP.1.dbl]] w3 (QFPost (twiceO (wordA a) RP.1) w3) from zFF a HA.out A c w3 H.out RP.1 HPO.out)
   have HDO:=LH (zMJ HSO.out RP.1)
   rw [hdb] at c7 HDC
   generalize twiceO (wordA a) RP.1=D at *
   clear hdb
   go_wp2_with fail
   refine HDC.out.mono ?_
   rintro e w4 ⟨rfl,hg⟩
   have hgd:=(Keep.refl NoB w4).alloc (.cells #[.int .i64 D.1.kind,.int .i64 D.1.seg,.int .i64 D.1.at_,.int .i64 D.1.data,.int .i64 D.1.ptrs,.int .i64 D.1.size,.int .i64 D.1.count] 257)
   have HDB:=LH (heap_alloc_new w4 (.cells #[.int .i64 D.1.kind,.int .i64 D.1.seg,.int .i64 D.1.at_,.int .i64 D.1.data,.int .i64 D.1.ptrs,.int .i64 D.1.size,.int .i64 D.1.count] 257))
   have hz4:=Grow.heap hg HZ.out
   have hb4:w.heap.size+1<w4.heap.size:=(gE hz4).1
   have hne3:w4.heap.size≠w.heap.size+1:=by omega
   have hne4:w.heap.size+1≠w4.heap.size:=by omega
   replace HS:=LH (Grow.heap (hg.grow hgd) HS.out)
   replace HZ:=LH (Grow.heap (hg.grow hgd) HZ.out)
   replace HG:=LH (HG.out.grow (hg.grow hgd))
   replace H:=LH (H.out.grow (hg.grow hgd))
   clear hg hgd hz4 hb4 c0 c1 c2 c3 c4 c5 c6 c7 cf m0 m1 m2 mf HDC
   obtain ⟨d0,d1,d2,d3,d4,d5,d6,df⟩:=zC HDB.out
   obtain ⟨m0,m1,m2,mf⟩:=zI HS.out
   by_cases hde:D.2=0
   case neg =>
    have heb:(D.2 != 0)=true:=by simp [hde]
    replace E0:=LH (E0.out.trans (if_neg hde))
    clear hde
    obtain ⟨y0,y1,y2,y3,y4,y5,y6,yf⟩:=zC HZ.out
    go_wp2
    refine ret7 HG.out (Nat.le_succ _) HZ.out (fun w' z0 z1 z2 z3 z4 z5 z6 zf=>?_) rfl (fun w' hg=>⟨by rw [E0.out];rfl,hg⟩)
    rw [results_cell_tmp rfl];go_simp
   have heb:(D.2 != 0)=false:=by simp [hde]
   replace E0:=LH (E0.out.trans (if_pos hde))
   clear hde
   have HBC:=LH (zIA a HA.out A c _ H.out D.1 HDO.out)
   generalize foundO (szs a) D.1=F at *
   go_wp2_with fail
   refine HBC.out.mono ?_
   rintro e w5 ⟨rfl,hg⟩
   have hgf:=(Keep.refl NoB w5).alloc (.cells #[.int .i64 F.1.kind,.int .i64 F.1.seg,.int .i64 F.1.at_,.int .i64 F.1.data,.int .i64 F.1.ptrs,.int .i64 F.1.size,.int .i64 F.1.count] 257)
   have hfb:=heap_alloc_new w5 (.cells #[.int .i64 F.1.kind,.int .i64 F.1.seg,.int .i64 F.1.at_,.int .i64 F.1.data,.int .i64 F.1.ptrs,.int .i64 F.1.size,.int .i64 F.1.count] 257)
   have hz5:=Grow.heap hg HZ.out
   have hb5:w.heap.size+1<w5.heap.size:=(gE hz5).1
   have hne5:w5.heap.size≠w.heap.size+1:=by omega
   have hne6:w.heap.size+1≠w5.heap.size:=by omega
   replace HZ:=LH (Grow.heap (hg.grow hgf) HZ.out)
   replace HG:=LH (HG.out.grow (hg.grow hgf))
   replace H:=LH (H.out.grow (hg.grow hgf))
   clear hg hgf hz5 hb5 d0 d1 d2 d3 d4 d5 d6 df m0 m1 m2 mf HBC heb
   obtain ⟨d0,d1,d2,d3,d4,d5,d6,df⟩:=zC hfb
   clear hfb
   obtain ⟨y0,y1,y2,y3,y4,y5,y6,yf⟩:=zC HZ.out
   go_wp2
   refine ret7 HG.out (Nat.le_succ _) HZ.out (fun w' z0 z1 z2 z3 z4 z5 z6 zf=>?_) rfl (fun w' hg=>⟨by rw [E0.out],hg⟩)
   rw [results_cell_tmp rfl];go_simp
  replace E0:=LH (E0.out.trans (if_neg (by rw [hdb];simp)))
  have E1:Hid (landedP (szs a) (wordA a) RP.1=if (ptrAt (wordA a) RP.1.seg RP.1.off).2=0 then if isNear (ptrAt (wordA a) RP.1.seg RP.1.off).1 then foundO (szs a) (obOf (ptrAt (wordA a) RP.1.seg RP.1.off).1 RP.1.seg (RP.1.off+1+(ptrAt (wordA a) RP.1.seg RP.1.off).1.off)) else (ob0,23) else (ob0,(ptrAt (wordA a) RP.1.seg RP.1.off).2)):=LH rfl
  replace E0:=LH (E0.out.trans E1.out)
  have HPQ:=LH (zSB HSO.out RP.1.seg RP.1.off)
  have HPT:=LH (zFE a HA.out A c w3 H.out RP.1.seg RP.1.off)
  have HQ:Hid (∀ e w' w0,QPAPost (wordA a) RP.1.seg RP.1.off w0 e w'→e=.returned (.tuple #[.agg #[.int .i64 (ptrAt (wordA a) RP.1.seg RP.1.off).1.kind,.int .i64 (ptrAt (wordA a) RP.1.seg RP.1.off).1.off,.int .i64 (ptrAt (wordA a) RP.1.seg RP.1.off).1.data,.int .i64 (ptrAt (wordA a) RP.1.seg RP.1.off).1.ptrs,.int .i64 (ptrAt (wordA a) RP.1.seg RP.1.off).1.size,.int .i64 (ptrAt (wordA a) RP.1.seg RP.1.off).1.count,.int .i64 (ptrAt (wordA a) RP.1.seg RP.1.off).1.seg,.bool (ptrAt (wordA a) RP.1.seg RP.1.off).1.dbl],.int .i64 (ptrAt (wordA a) RP.1.seg RP.1.off).2])∧Grow w0 w'):=LH (fun _ _ _ h=>h)
  rw [hdb] at c7
  clear hdb E1
  go_wp2_with fail
  refine HPT.out.mono ?_
  intro e w4 hpost
  replace hpost:=HQ.out _ _ _ hpost
  clear HPT HQ
  generalize ptrAt (wordA a) RP.1.seg RP.1.off=RQ at *
  obtain ⟨rfl,hg⟩:=hpost
  have hg8:=(Keep.refl NoB w4).alloc (.cells #[.int .i64 RQ.1.kind,.int .i64 RQ.1.off,.int .i64 RQ.1.data,.int .i64 RQ.1.ptrs,.int .i64 RQ.1.size,.int .i64 RQ.1.count,.int .i64 RQ.1.seg,.bool RQ.1.dbl] 120)
  have HQ8:=LH (heap_alloc_new w4 (.cells #[.int .i64 RQ.1.kind,.int .i64 RQ.1.off,.int .i64 RQ.1.data,.int .i64 RQ.1.ptrs,.int .i64 RQ.1.size,.int .i64 RQ.1.count,.int .i64 RQ.1.seg,.bool RQ.1.dbl] 120))
  have hz4:=Grow.heap hg HZ.out
  have hb4:w.heap.size+1<w4.heap.size:=(gE hz4).1
  have hne3:w4.heap.size≠w.heap.size+1:=by omega
  have hne4:w.heap.size+1≠w4.heap.size:=by omega
  replace HS:=LH (Grow.heap (hg.grow hg8) HS.out)
  replace HP8:=LH (Grow.heap (hg.grow hg8) HP8.out)
  replace HZ:=LH (Grow.heap (hg.grow hg8) HZ.out)
  replace HG:=LH (HG.out.grow (hg.grow hg8))
  replace H:=LH (H.out.grow (hg.grow hg8))
  clear hg hg8 hz4 hb4 c0 c1 c2 c3 c4 c5 c6 c7 cf m0 m1 m2 mf
  obtain ⟨q0,q1,q2,q3,q4,q5,q6,q7,qf⟩:=zO HQ8.out
  by_cases he:RQ.2=0
  case neg =>
   have heb:(RQ.2 != 0)=true:=by simp [he]
   replace E0:=LH (E0.out.trans (if_neg he))
   clear he
   obtain ⟨y0,y1,y2,y3,y4,y5,y6,yf⟩:=zC HZ.out
   go_wp2
   refine ret7 HG.out (Nat.le_succ _) HZ.out (fun w' z0 z1 z2 z3 z4 z5 z6 zf=>?_) rfl (fun w' hg=>⟨by rw [E0.out];rfl,hg⟩)
   rw [results_cell_tmp rfl];go_simp
  have heb:(RQ.2 != 0)=false:=by simp [he]
  replace E0:=LH (E0.out.trans (if_pos he))
  clear he
  go_wp2_with fail
  refine (show Calls Tryz.prog 224 #[.agg #[.int .i64 RQ.1.kind,.int .i64 RQ.1.off,.int .i64 RQ.1.data,.int .i64 RQ.1.ptrs,.int .i64 RQ.1.size,.int .i64 RQ.1.count,.int .i64 RQ.1.seg,.bool RQ.1.dbl]] _ (fun e w'=>e=.returned (.bool (isNear RQ.1))∧Grow _ w') from zGC RQ.1 _).mono ?_
  rintro e w5 ⟨rfl,hg⟩
  replace HP8:=LH (Grow.heap hg HP8.out)
  replace HQ8:=LH (Grow.heap hg HQ8.out)
  replace HS:=LH (Grow.heap hg HS.out)
  replace HZ:=LH (Grow.heap hg HZ.out)
  replace HG:=LH (HG.out.grow hg)
  replace H:=LH (H.out.grow hg)
  clear hg q0 q1 q2 q3 q4 q5 q6 q7 qf heb
  rcases hnr:isNear RQ.1 with _ | _
  case false =>
   replace E0:=LH (E0.out.trans (if_neg (by rw [hnr];simp)))
   clear hnr
   obtain ⟨y0,y1,y2,y3,y4,y5,y6,yf⟩:=zC HZ.out
   go_wp2
   refine ret7 HG.out (Nat.le_succ _) HZ.out (fun w' z0 z1 z2 z3 z4 z5 z6 zf=>?_) rfl (fun w' hg=>⟨by rw [E0.out];rfl,hg⟩)
   rw [results_cell_tmp rfl];go_simp
  replace E0:=LH (E0.out.trans (if_pos hnr))
  have hpq:=HPQ.out.o
  have hwa:IntKind.i64.wrap (RP.1.off+1)=RP.1.off+1:=IntWalk.i64_in _ (by omega)
  have hwb:IntKind.i64.wrap (RP.1.off+1+RQ.1.off)=RP.1.off+1+RQ.1.off:=IntWalk.i64_in _ (by omega)
  clear hnr
  replace HPO:=HPQ
  obtain ⟨c0,c1,c2,c3,c4,c5,c6,c7,cf⟩:=zO HP8.out
  obtain ⟨q0,q1,q2,q3,q4,q5,q6,q7,qf⟩:=zO HQ8.out
  obtain ⟨m0,m1,m2,mf⟩:=zI HS.out
  obtain ⟨F,HFO⟩:∃ F,Hid (foundO (szs a) (obOf RQ.1 RP.1.seg (RP.1.off+1+RQ.1.off))=F):=⟨_,LH rfl⟩
  replace E0:=LH (E0.out.trans HFO.out)
  go_wp2
  refine zJC NoB [0,1,2,3,4,5,6,7,8,9] [] [0,1,3,5,8] [16] #[true,true,true,true,true,true,true,true,true,true,false,false,false,false,false,false,false,false] 8 rfl (by kernel_rfl) ?_
  refine ord_r (y:=by intro w' hg;have q0:=hg.cell m0 (fun h=>h);have q1:=hg.cell m1 (fun h=>h);have q2:=hg.cell m2 (fun h=>h);go_simp;with_reducible rfl) (z:=?_)
  refine ord_r (y:=by intro w' hg;have p0:=hg.cell q0 (fun h=>h);have p1:=hg.cell q1 (fun h=>h);have p2:=hg.cell q2 (fun h=>h);have p3:=hg.cell q3 (fun h=>h);have p4:=hg.cell q4 (fun h=>h);have p5:=hg.cell q5 (fun h=>h);have p6:=hg.cell q6 (fun h=>h);have p7:=hg.cell q7 (fun h=>h);go_simp;with_reducible rfl) (z:=?_)
  refine ord_p ?_
  refine ord_r (y:=by intro w' hg;have p:=hg.cell c6 (fun h=>h);go_simp;with_reducible rfl) (z:=?_)
  refine ord_p ?_
  refine ord_r (y:=by intro w' hg;have p:=hg.cell c1 (fun h=>h);go_simp;with_reducible rfl) (z:=?_)
  iterate 2
   refine ord_p ?_
  refine ord_r (y:=by intro w' hg;have p:=hg.cell q1 (fun h=>h);go_simp;with_reducible rfl) (z:=?_)
  refine ord_p ?_
  clear c0 c1 c2 c3 c4 c5 c6 c7 cf m0 m1 m2 mf q0 q1 q2 q3 q4 q5 q6 q7 qf
  refine zF ?_
  have hgd:=(Keep.refl NoB w5).drew
  replace HZ:=LH (Grow.heap hgd HZ.out)
  replace HG:=LH (HG.out.grow hgd)
  replace H:=LH (H.out.grow hgd)
  clear hgd
  refine zRB 10 15 #[true,true,true,true,true,true,true,true,true,true,true,false,false,false,false,false,false,false] #[true,true,true,true,true,true,true,true,true,true,false,false,false,false,false,true,false,false] (by kernel_rfl) ?_ ?_
  ·
   refine zG rfl rfl rfl rfl rfl Tryz.func226 rfl rfl [.agg #[.int .i64 RQ.1.kind,.int .i64 RQ.1.off,.int .i64 RQ.1.data,.int .i64 RQ.1.ptrs,.int .i64 RQ.1.size,.int .i64 RQ.1.count,.int .i64 RQ.1.seg,.bool RQ.1.dbl],.int .i64 RP.1.seg,.int .i64 (RP.1.off+1+RQ.1.off)] rfl ?_
   refine (show Calls Tryz.prog 226 #[.agg #[.int .i64 RQ.1.kind,.int .i64 RQ.1.off,.int .i64 RQ.1.data,.int .i64 RQ.1.ptrs,.int .i64 RQ.1.size,.int .i64 RQ.1.count,.int .i64 RQ.1.seg,.bool RQ.1.dbl],.int .i64 RP.1.seg,.int .i64 (RP.1.off+1+RQ.1.off)] _ (QObPost (obOf RQ.1 RP.1.seg (RP.1.off+1+RQ.1.off)) _) from zQB RQ.1 RP.1.seg (RP.1.off+1+RQ.1.off) _).mono ?_
   rintro e wA ⟨rfl,hg⟩
   refine ⟨_,rfl,fun _=>hg,?_⟩
   replace HZ:=LH (Grow.heap hg HZ.out)
   replace HG:=LH (HG.out.grow hg)
   replace H:=LH (H.out.grow hg)
   have hgA:=hg
   clear hg
   simp only [Act.put,pB,pC,pD]
   refine zF ?_
   refine zRB 11 15 #[true,true,true,true,true,true,true,true,true,true,true,true,false,false,false,false,false,false] #[true,true,true,true,true,true,true,true,true,true,true,false,false,false,false,true,false,false] (by kernel_rfl) ?_ ?_
   ·
    refine zG rfl rfl rfl rfl rfl Tryz.func225 rfl rfl [(.agg #[.slice A a.length c,.bool false,.slice none 0 0]),.agg #[.int .i64 (obOf RQ.1 RP.1.seg (RP.1.off+1+RQ.1.off)).kind,.int .i64 (obOf RQ.1 RP.1.seg (RP.1.off+1+RQ.1.off)).seg,.int .i64 (obOf RQ.1 RP.1.seg (RP.1.off+1+RQ.1.off)).at_,.int .i64 (obOf RQ.1 RP.1.seg (RP.1.off+1+RQ.1.off)).data,.int .i64 (obOf RQ.1 RP.1.seg (RP.1.off+1+RQ.1.off)).ptrs,.int .i64 (obOf RQ.1 RP.1.seg (RP.1.off+1+RQ.1.off)).size,.int .i64 (obOf RQ.1 RP.1.seg (RP.1.off+1+RQ.1.off)).count]] rfl ?_
    refine (show Calls Tryz.prog 225 #[(.agg #[.slice A a.length c,.bool false,.slice none 0 0]),.agg #[.int .i64 (obOf RQ.1 RP.1.seg (RP.1.off+1+RQ.1.off)).kind,.int .i64 (obOf RQ.1 RP.1.seg (RP.1.off+1+RQ.1.off)).seg,.int .i64 (obOf RQ.1 RP.1.seg (RP.1.off+1+RQ.1.off)).at_,.int .i64 (obOf RQ.1 RP.1.seg (RP.1.off+1+RQ.1.off)).data,.int .i64 (obOf RQ.1 RP.1.seg (RP.1.off+1+RQ.1.off)).ptrs,.int .i64 (obOf RQ.1 RP.1.seg (RP.1.off+1+RQ.1.off)).size,.int .i64 (obOf RQ.1 RP.1.seg (RP.1.off+1+RQ.1.off)).count]] _ (QFPost (foundO (szs a) (obOf RQ.1 RP.1.seg (RP.1.off+1+RQ.1.off))) _) from zIA a HA.out A c _ H.out (obOf RQ.1 RP.1.seg (RP.1.off+1+RQ.1.off)) (zsA HPO.out RP.1.seg (RP.1.off+1+RQ.1.off))).mono ?_
    rintro e wB ⟨rfl,hg⟩
    refine ⟨_,rfl,fun _=>hg,?_⟩
    rw [HFO.out]
    replace HZ:=LH (Grow.heap hg HZ.out)
    replace HG:=LH (HG.out.grow hg)
    replace H:=LH (H.out.grow hg)
    have hgB:=hg
    clear hg
    simp only [Act.put,pB,pC,pD]
    refine zF ?_
    refine zCH (n:=3) [12,13,14] [] [] #[true,true,true,true,true,true,true,true,true,true,true,true,true,true,true,false,false,false] (by kernel_rfl) ?_
    iterate 3
     refine ord_p ?_
    refine zF ?_
    refine zqA [15,16,17] [15,16,17] [] (by kernel_rfl) ?_
    refine zl rfl rfl rfl rfl ?_ ?_ ?_ ?_ ?_ ?_
    rotate_left 3
    ·go_simp;first | with_reducible rfl | (constructor <;> with_reducible rfl)
    ·simp only [Act.put,pB,pC,pD];rfl
    have hzn:=heap_alloc_new wB (.cells #[.int .i64 0,.int .i64 0,.int .i64 0,.int .i64 0,.int .i64 0,.int .i64 0,.int .i64 0] 257)
    have hgn:=(Keep.refl NoB wB).alloc (.cells #[.int .i64 0,.int .i64 0,.int .i64 0,.int .i64 0,.int .i64 0,.int .i64 0,.int .i64 0] 257)
    have hbn:w.heap.size+1<wB.heap.size:=by have:=(gE HZ.out).1;exact this
    obtain ⟨T,hT⟩:∃ T,wB.heap.size=T:=⟨_,rfl⟩
    generalize wB.alloc (.cells #[.int .i64 0,.int .i64 0,.int .i64 0,.int .i64 0,.int .i64 0,.int .i64 0,.int .i64 0] 257)=wN at hzn hgn ⊢
    skip
    rw [hT] at hzn hbn ⊢
    clear hT
    have HT:=LH hzn
    have HB:=LH hbn
    replace HZ:=LH (Grow.heap hgn HZ.out)
    replace HG:=LH (HG.out.grow hgn)
    replace H:=LH (H.out.grow hgn)
    clear hzn hgn hbn
    have hzt:=HT.out
    obtain ⟨t0,t1,t2,t3,t4,t5,t6,tf⟩:=zC hzt
    have hbt:=HB.out
    refine zhB hzt ?_
    intro wT hkt hst
    have HGT:=LH (HG.out.trans hkt (fun j hj=>.inr (by omega)))
    have HZT:=LH ((hkt.block (w.heap.size+1) (gE HZ.out).1 (by omega)).trans HZ.out)
    have HST:=LH hst
    clear hkt hst hzt t0 t1 t2 t3 t4 t5 t6 tf
    refine ord_s ?_
    refine zF ?_
    obtain ⟨t0,t1,t2,t3,t4,t5,t6,tf⟩:=zC HST.out
    have hneT:w.heap.size+1≠T:=by have:=HB.out;omega
    have hneT2:T≠w.heap.size+1:=fun e=>hneT e.symm
    obtain ⟨y0,y1,y2,y3,y4,y5,y6,yf⟩:=zC HZT.out
    go_wp2
    refine ret7 HGT.out (Nat.le_succ _) HZT.out (fun w' z0 z1 z2 z3 z4 z5 z6 zf=>?_) rfl (fun w' hg=>⟨by rw [E0.out],hg⟩)
    rw [results_cell_tmp rfl];go_simp
   ·
    refine zl rfl rfl rfl rfl ?_ ?_ ?_ ?_ ?_ ?_
    rotate_left 3
    ·go_simp;first | with_reducible rfl | (constructor <;> with_reducible rfl)
    ·simp only [Act.put,pB,pC,pD];rfl
    have hzn:=heap_alloc_new wA (.cells #[.int .i64 0,.int .i64 0,.int .i64 0,.int .i64 0,.int .i64 0,.int .i64 0,.int .i64 0] 257)
    have hgn:=(Keep.refl NoB wA).alloc (.cells #[.int .i64 0,.int .i64 0,.int .i64 0,.int .i64 0,.int .i64 0,.int .i64 0,.int .i64 0] 257)
    have hbn:w.heap.size+1<wA.heap.size:=by have:=(gE HZ.out).1;exact this
    obtain ⟨T,hT⟩:∃ T,wA.heap.size=T:=⟨_,rfl⟩
    generalize wA.alloc (.cells #[.int .i64 0,.int .i64 0,.int .i64 0,.int .i64 0,.int .i64 0,.int .i64 0,.int .i64 0] 257)=wN at hzn hgn ⊢
    skip
    rw [hT] at hzn hbn ⊢
    clear hT
    have HT:=LH hzn
    have HB:=LH hbn
    replace HZ:=LH (Grow.heap hgn HZ.out)
    replace HG:=LH (HG.out.grow hgn)
    replace H:=LH (H.out.grow hgn)
    clear hzn hgn hbn
    refine zF ?_
    refine zqA [11,12,13,14,16,17] [11,16,17] [] (by kernel_rfl) ?_
    refine zG rfl rfl rfl rfl rfl Tryz.func225 rfl rfl [(.agg #[.slice A a.length c,.bool false,.slice none 0 0]),.agg #[.int .i64 (obOf RQ.1 RP.1.seg (RP.1.off+1+RQ.1.off)).kind,.int .i64 (obOf RQ.1 RP.1.seg (RP.1.off+1+RQ.1.off)).seg,.int .i64 (obOf RQ.1 RP.1.seg (RP.1.off+1+RQ.1.off)).at_,.int .i64 (obOf RQ.1 RP.1.seg (RP.1.off+1+RQ.1.off)).data,.int .i64 (obOf RQ.1 RP.1.seg (RP.1.off+1+RQ.1.off)).ptrs,.int .i64 (obOf RQ.1 RP.1.seg (RP.1.off+1+RQ.1.off)).size,.int .i64 (obOf RQ.1 RP.1.seg (RP.1.off+1+RQ.1.off)).count]] rfl ?_
    refine (show Calls Tryz.prog 225 #[(.agg #[.slice A a.length c,.bool false,.slice none 0 0]),.agg #[.int .i64 (obOf RQ.1 RP.1.seg (RP.1.off+1+RQ.1.off)).kind,.int .i64 (obOf RQ.1 RP.1.seg (RP.1.off+1+RQ.1.off)).seg,.int .i64 (obOf RQ.1 RP.1.seg (RP.1.off+1+RQ.1.off)).at_,.int .i64 (obOf RQ.1 RP.1.seg (RP.1.off+1+RQ.1.off)).data,.int .i64 (obOf RQ.1 RP.1.seg (RP.1.off+1+RQ.1.off)).ptrs,.int .i64 (obOf RQ.1 RP.1.seg (RP.1.off+1+RQ.1.off)).size,.int .i64 (obOf RQ.1 RP.1.seg (RP.1.off+1+RQ.1.off)).count]] _ (QFPost (foundO (szs a) (obOf RQ.1 RP.1.seg (RP.1.off+1+RQ.1.off))) _) from zIA a HA.out A c _ H.out (obOf RQ.1 RP.1.seg (RP.1.off+1+RQ.1.off)) (zsA HPO.out RP.1.seg (RP.1.off+1+RQ.1.off))).mono ?_
    rintro e wB ⟨rfl,hg⟩
    refine ⟨_,rfl,fun _=>hg,?_⟩
    rw [HFO.out]
    replace HZ:=LH (Grow.heap hg HZ.out)
    replace HG:=LH (HG.out.grow hg)
    replace H:=LH (H.out.grow hg)
    have hgB:=hg
    clear hg
    simp only [Act.put,pB,pC,pD]
    replace HT:=LH (Grow.heap hgB HT.out)
    iterate 3
     refine ord_p ?_
    have hzt:=HT.out
    obtain ⟨t0,t1,t2,t3,t4,t5,t6,tf⟩:=zC hzt
    have hbt:=HB.out
    refine zhB hzt ?_
    intro wT hkt hst
    have HGT:=LH (HG.out.trans hkt (fun j hj=>.inr (by omega)))
    have HZT:=LH ((hkt.block (w.heap.size+1) (gE HZ.out).1 (by omega)).trans HZ.out)
    have HST:=LH hst
    clear hkt hst hzt t0 t1 t2 t3 t4 t5 t6 tf
    refine ord_s ?_
    refine zF ?_
    obtain ⟨t0,t1,t2,t3,t4,t5,t6,tf⟩:=zC HST.out
    have hneT:w.heap.size+1≠T:=by have:=HB.out;omega
    have hneT2:T≠w.heap.size+1:=fun e=>hneT e.symm
    obtain ⟨y0,y1,y2,y3,y4,y5,y6,yf⟩:=zC HZT.out
    go_wp2
    refine ret7 HGT.out (Nat.le_succ _) HZT.out (fun w' z0 z1 z2 z3 z4 z5 z6 zf=>?_) rfl (fun w' hg=>⟨by rw [E0.out],hg⟩)
    rw [results_cell_tmp rfl];go_simp
  ·
   refine zl rfl rfl rfl rfl ?_ ?_ ?_ ?_ ?_ ?_
   rotate_left 3
   ·go_simp;first | with_reducible rfl | (constructor <;> with_reducible rfl)
   ·simp only [Act.put,pB,pC,pD];rfl
   have hzn:=heap_alloc_new w5.drew (.cells #[.int .i64 0,.int .i64 0,.int .i64 0,.int .i64 0,.int .i64 0,.int .i64 0,.int .i64 0] 257)
   have hgn:=(Keep.refl NoB w5.drew).alloc (.cells #[.int .i64 0,.int .i64 0,.int .i64 0,.int .i64 0,.int .i64 0,.int .i64 0,.int .i64 0] 257)
   have hbn:w.heap.size+1<w5.drew.heap.size:=by have:=(gE HZ.out).1;exact this
   obtain ⟨T,hT⟩:∃ T,w5.heap.size=T:=⟨_,rfl⟩
   generalize w5.drew.alloc (.cells #[.int .i64 0,.int .i64 0,.int .i64 0,.int .i64 0,.int .i64 0,.int .i64 0,.int .i64 0] 257)=wN at hzn hgn ⊢
   rw [show w5.drew.heap.size=w5.heap.size from rfl] at hzn hbn
   rw [hT] at hzn hbn ⊢
   clear hT
   have HT:=LH hzn
   have HB:=LH hbn
   replace HZ:=LH (Grow.heap hgn HZ.out)
   replace HG:=LH (HG.out.grow hgn)
   replace H:=LH (H.out.grow hgn)
   clear hzn hgn hbn
   refine zF ?_
   refine zqA [10,11,12,13,14,16,17] [10,11,16,17] [] (by kernel_rfl) ?_
   refine zG rfl rfl rfl rfl rfl Tryz.func226 rfl rfl [.agg #[.int .i64 RQ.1.kind,.int .i64 RQ.1.off,.int .i64 RQ.1.data,.int .i64 RQ.1.ptrs,.int .i64 RQ.1.size,.int .i64 RQ.1.count,.int .i64 RQ.1.seg,.bool RQ.1.dbl],.int .i64 RP.1.seg,.int .i64 (RP.1.off+1+RQ.1.off)] rfl ?_
   refine (show Calls Tryz.prog 226 #[.agg #[.int .i64 RQ.1.kind,.int .i64 RQ.1.off,.int .i64 RQ.1.data,.int .i64 RQ.1.ptrs,.int .i64 RQ.1.size,.int .i64 RQ.1.count,.int .i64 RQ.1.seg,.bool RQ.1.dbl],.int .i64 RP.1.seg,.int .i64 (RP.1.off+1+RQ.1.off)] _ (QObPost (obOf RQ.1 RP.1.seg (RP.1.off+1+RQ.1.off)) _) from zQB RQ.1 RP.1.seg (RP.1.off+1+RQ.1.off) _).mono ?_
   rintro e wA ⟨rfl,hg⟩
   refine ⟨_,rfl,fun _=>hg,?_⟩
   replace HZ:=LH (Grow.heap hg HZ.out)
   replace HG:=LH (HG.out.grow hg)
   replace H:=LH (H.out.grow hg)
   have hgA:=hg
   clear hg
   simp only [Act.put,pB,pC,pD]
   replace HT:=LH (Grow.heap hgA HT.out)
   refine zG rfl rfl rfl rfl rfl Tryz.func225 rfl rfl [(.agg #[.slice A a.length c,.bool false,.slice none 0 0]),.agg #[.int .i64 (obOf RQ.1 RP.1.seg (RP.1.off+1+RQ.1.off)).kind,.int .i64 (obOf RQ.1 RP.1.seg (RP.1.off+1+RQ.1.off)).seg,.int .i64 (obOf RQ.1 RP.1.seg (RP.1.off+1+RQ.1.off)).at_,.int .i64 (obOf RQ.1 RP.1.seg (RP.1.off+1+RQ.1.off)).data,.int .i64 (obOf RQ.1 RP.1.seg (RP.1.off+1+RQ.1.off)).ptrs,.int .i64 (obOf RQ.1 RP.1.seg (RP.1.off+1+RQ.1.off)).size,.int .i64 (obOf RQ.1 RP.1.seg (RP.1.off+1+RQ.1.off)).count]] rfl ?_
   refine (show Calls Tryz.prog 225 #[(.agg #[.slice A a.length c,.bool false,.slice none 0 0]),.agg #[.int .i64 (obOf RQ.1 RP.1.seg (RP.1.off+1+RQ.1.off)).kind,.int .i64 (obOf RQ.1 RP.1.seg (RP.1.off+1+RQ.1.off)).seg,.int .i64 (obOf RQ.1 RP.1.seg (RP.1.off+1+RQ.1.off)).at_,.int .i64 (obOf RQ.1 RP.1.seg (RP.1.off+1+RQ.1.off)).data,.int .i64 (obOf RQ.1 RP.1.seg (RP.1.off+1+RQ.1.off)).ptrs,.int .i64 (obOf RQ.1 RP.1.seg (RP.1.off+1+RQ.1.off)).size,.int .i64 (obOf RQ.1 RP.1.seg (RP.1.off+1+RQ.1.off)).count]] _ (QFPost (foundO (szs a) (obOf RQ.1 RP.1.seg (RP.1.off+1+RQ.1.off))) _) from zIA a HA.out A c _ H.out (obOf RQ.1 RP.1.seg (RP.1.off+1+RQ.1.off)) (zsA HPO.out RP.1.seg (RP.1.off+1+RQ.1.off))).mono ?_
   rintro e wB ⟨rfl,hg⟩
   refine ⟨_,rfl,fun _=>hg,?_⟩
   rw [HFO.out]
   replace HZ:=LH (Grow.heap hg HZ.out)
   replace HG:=LH (HG.out.grow hg)
   replace H:=LH (H.out.grow hg)
   have hgB:=hg
   clear hg
   simp only [Act.put,pB,pC,pD]
   replace HT:=LH (Grow.heap hgB HT.out)
   iterate 3
    refine ord_p ?_
   have hzt:=HT.out
   obtain ⟨t0,t1,t2,t3,t4,t5,t6,tf⟩:=zC hzt
   have hbt:=HB.out
   refine zhB hzt ?_
   intro wT hkt hst
   have HGT:=LH (HG.out.trans hkt (fun j hj=>.inr (by omega)))
   have HZT:=LH ((hkt.block (w.heap.size+1) (gE HZ.out).1 (by omega)).trans HZ.out)
   have HST:=LH hst
   clear hkt hst hzt t0 t1 t2 t3 t4 t5 t6 tf
   refine ord_s ?_
   refine zF ?_
   obtain ⟨t0,t1,t2,t3,t4,t5,t6,tf⟩:=zC HST.out
   have hneT:w.heap.size+1≠T:=by have:=HB.out;omega
   have hneT2:T≠w.heap.size+1:=fun e=>hneT e.symm
   obtain ⟨y0,y1,y2,y3,y4,y5,y6,yf⟩:=zC HZT.out
   go_wp2
   refine ret7 HGT.out (Nat.le_succ _) HZT.out (fun w' z0 z1 z2 z3 z4 z5 z6 zf=>?_) rfl (fun w' hg=>⟨by rw [E0.out],hg⟩)
   rw [results_cell_tmp rfl];go_simp
end Go.Proofs.YtfkcpaahdlkcdaaGreat
namespace Go.Proofs.YtfkcpaahdlkcdaaGreat
open Go.RowKit
def QNPost (A:Option Addr) (n c:Nat) (r:Tr×Int×Int) (w:World) (e:Ending) (w':World):Prop :=
 ∃ (paid k s:Int) (A1 A2 A3:Option Addr) (n1 c1 n2 c2 n3 c3:Nat),e=.returned (.tuple #[.agg #[.slice A n c,.bool false,.slice none 0 0,.int .i64 paid,.int .i64 r.2.1],.agg #[.int .i64 k,.int .i64 s,.slice A1 n1 c1,.slice A2 n2 c2,.slice A3 n3 c3]])∧Grow w w' ∧
  (r.2.1=0→paid=r.2.2∧k=r.1.kind∧s=r.1.size∧n1=r.1.ws.length∧n2=r.1.bs.length∧n3=r.1.kids.length∧TrB r.1∧Foot (fun u=>TrR u r.1 (.slice A1 n1 c1) (.slice A2 n2 c2) (.slice A3 n3 c3)) w' (fun j=>w.heap.size≤j∧j<w'.heap.size))
structure QD (w:World) (A:Option Addr) (n ca:Nat) (paid er:Int) (O N:Nat) (o:Ob) (vw vb vk:Value) (c:World):Prop where
 d4:c.heap[w.heap.size]? = some (.cells #[.slice A n ca,.bool false,.slice none 0 0,.int .i64 paid,.int .i64 er] 216 (0,0))
 d8:c.heap[w.heap.size+1]? = some (.cells #[.slice none 0 0,.bool false,.slice none 0 0,.int .i64 0,.int .i64 0] 216 (0,0))
 d9:c.heap[w.heap.size+2]? = some (.cells #[.int .i64 0,.int .i64 0,.slice none 0 0,.slice none 0 0,.slice none 0 0] 114 (0,0))
 ob:c.heap[O]? = some (.cells #[.int .i64 o.kind,.int .i64 o.seg,.int .i64 o.at_,.int .i64 o.data,.int .i64 o.ptrs,.int .i64 o.size,.int .i64 o.count] 257 (0,0))
 nd:c.heap[N]? = some (.cells #[.int .i64 o.kind,.int .i64 o.size,vw,vb,vk] 114 (0,0))
 grow:Grow w c
 lo:w.heap.size+2<O∧O<N
namespace QD
variable {w:World} {A:Option Addr} {n ca:Nat} {paid er:Int} {O N:Nat} {o:Ob} {vw vb vk:Value} {c c':World}
theorem big (h:QD w A n ca paid er O N o vw vb vk c):N<c.heap.size:=(gE h.nd).1
theorem keep (h:QD w A n ca paid er O N o vw vb vk c) (hk:Keep (fun j=>N<j) c c'):QD w A n ca paid er O N o vw vb vk c':=by
 have hb:=h.big
 obtain ⟨l1,l2⟩:=h.lo
 exact ⟨(hk.block _ (by omega) (by omega)).trans h.d4,(hk.block _ (by omega) (by omega)).trans h.d8,(hk.block _ (by omega) (by omega)).trans h.d9,(hk.block _ (by omega) (by omega)).trans h.ob,(hk.block _ hb (by omega)).trans h.nd,
  ((h.grow.mono (T:=fun j=>w.heap.size≤j) (fun _ h=>h.elim)).trans hk (fun j hj=>.inl (by omega))).new (fun j hj=>hj),h.lo⟩
theorem later (h:QD w A n ca paid er O N o vw vb vk c) (hg:Grow c c'):QD w A n ca paid er O N o vw vb vk c':=h.keep (hg.mono (fun _ h=>h.elim))
theorem atN (h:QD w A n ca paid er O N o vw vb vk c) (i:Nat) (u x2 x3 x4:Value) (hs:(c.setCell ⟨N,i,none⟩ u).heap[N]? = some (.cells #[.int .i64 o.kind,.int .i64 o.size,x2,x3,x4] 114 (0,0))):QD w A n ca paid er O N o x2 x3 x4 (c.setCell ⟨N,i,none⟩ u):=by
 have hb:=h.big
 obtain ⟨l1,l2⟩:=h.lo
 have hk:Keep (fun j=>j=N) c (c.setCell ⟨N,i,none⟩ u):=(Keep.refl (fun j=>j=N) c).setCell (p:=⟨N,i,none⟩) (.inl rfl) _
 exact ⟨(hk.block _ (by omega) (by omega)).trans h.d4,(hk.block _ (by omega) (by omega)).trans h.d8,(hk.block _ (by omega) (by omega)).trans h.d9,(hk.block _ (by omega) (by omega)).trans h.ob,hs,
  ((h.grow.mono (T:=fun j=>w.heap.size≤j) (fun _ h=>h.elim)).trans hk (fun j hj=>.inl (by omega))).new (fun j hj=>hj),h.lo⟩
theorem put2 (h:QD w A n ca paid er O N o vw vb vk c) (u:Value):QD w A n ca paid er O N o u vb vk (c.setCell ⟨N,2,none⟩ u):=h.atN 2 u u vb vk (by simp only [World.setCell,Array.getElem?_modify];simp [h.nd])
theorem put3 (h:QD w A n ca paid er O N o vw vb vk c) (u:Value):QD w A n ca paid er O N o vw u vk (c.setCell ⟨N,3,none⟩ u):=h.atN 3 u vw u vk (by simp only [World.setCell,Array.getElem?_modify];simp [h.nd])
theorem put4 (h:QD w A n ca paid er O N o vw vb vk c) (u:Value):QD w A n ca paid er O N o vw vb u (c.setCell ⟨N,4,none⟩ u):=h.atN 4 u vw vb u (by simp only [World.setCell,Array.getElem?_modify];simp [h.nd])
theorem putD (h:QD w A n ca paid er O N o vw vb vk c) (p2 e2:Int):QD w A n ca p2 e2 O N o vw vb vk (((((c.setCell ⟨w.heap.size,0,none⟩ (.slice A n ca)).setCell ⟨w.heap.size,1,none⟩ (.bool false)).setCell ⟨w.heap.size,2,none⟩ (.slice none 0 0)).setCell ⟨w.heap.size,3,none⟩ (.int .i64 p2)).setCell ⟨w.heap.size,4,none⟩ (.int .i64 e2)):=by
 have hb:=h.big
 obtain ⟨l1,l2⟩:=h.lo
 have hk:=zb (c:=c) (N:=w.heap.size) (.slice A n ca) (.bool false) (.slice none 0 0) (.int .i64 p2) (.int .i64 e2)
 have hst:=zZ (w0:=w) (.slice A n ca) (.bool false) (.slice none 0 0) (.int .i64 p2) (.int .i64 e2) h.grow (Nat.le_refl _) h.d4
 exact ⟨hst.1,(hk.block _ (by omega) (by omega)).trans h.d8,(hk.block _ (by omega) (by omega)).trans h.d9,(hk.block _ (by omega) (by omega)).trans h.ob,(hk.block _ hb (by omega)).trans h.nd,hst.2,h.lo⟩
end QD
def FQ (N:Nat) (v:Value) (c:World):Nat→Prop:=fun j=>N<j∧j<c.heap.size∧v.ownBlock≠some j
structure QK (w:World) (A:Option Addr) (n ca:Nat) (paid er:Int) (O N:Nat) (o:Ob) (ws bs:List Int) (vw vb:Value) (k:Nat) (vk:Value) (rows:List (Tr×Value×Value×Value)) (c:World):Prop where
 q:QD w A n ca paid er O N o vw vb vk c
 len:rows.length=k
 own:c.ownsRow (N+1) 114 5 vk k (kcs rows)
 foot:Foot (fun u=>SliceR 1 vw ws.length (u64s ws) u∧SliceR 1 vb bs.length (u8s bs) u∧∀ r,r∈rows→TrR u r.1 r.2.1 r.2.2.1 r.2.2.2) c (FQ N vk c)
 trb:∀ r,r∈rows→TrB r.1
theorem QK.begin {w:World} {A:Option Addr} {n ca:Nat} {paid er:Int} {O N:Nat} {o:Ob} {ws bs:List Int} {vw vb:Value} {c:World}
    (hq:QD w A n ca paid er O N o vw vb (.slice none 0 0) c) (hw:c.ownsRow (N+1) 22 1 vw ws.length (u64s ws)) (hb:c.ownsRow (N+1) 5 1 vb bs.length (u8s bs)) :
    QK w A n ca paid er O N o ws bs vw vb 0 (.slice none 0 0) [] c:=by
 refine ⟨hq,rfl,World.ownsRow_nil _ _ _ _,?_,fun r h=>by cases h⟩
 refine (((Foot.of_own hw).and (Foot.of_own hb)).imp (fun u h=>⟨h.1,h.2,fun r hr=>by cases hr⟩)).mono (fun j hj=>hj.2.1) (fun j hj=>?_)
 rcases hj with hj | hj
 ·exact ⟨by have:=(hw.lt j hj).1;omega,(hw.lt j hj).2,by simp [Value.ownBlock]⟩
 ·exact ⟨by have:=(hb.lt j hj).1;omega,(hb.lt j hj).2,by simp [Value.ownBlock]⟩
structure QM (w:World) (A:Option Addr) (n ca:Nat) (paid er:Int) (O N:Nat) (o:Ob) (ws bs:List Int) (vw vb:Value) (k:Nat) (vk:Value) (rows:List (Tr×Value×Value×Value)) (kid:Tr×Value×Value×Value) (c:World):Prop where
 q:QD w A n ca paid er O N o vw vb vk c
 own:c.ownsRow (N+1) 114 5 vk k (kcs rows)
 foot:Foot (fun u=>SliceR 1 vw ws.length (u64s ws) u∧SliceR 1 vb bs.length (u8s bs) u∧∀ r,r∈rows++[kid]→TrR u r.1 r.2.1 r.2.2.1 r.2.2.2) c (FQ N vk c)
theorem QK.called {w:World} {A:Option Addr} {n ca:Nat} {paid er:Int} {O N:Nat} {o:Ob} {ws bs:List Int} {vw vb:Value} {k:Nat} {vk:Value} {rows:List (Tr×Value×Value×Value)} {c c':World}
    (h:QK w A n ca paid er O N o ws bs vw vb k vk rows c) {t:Tr} {xw xb xk:Value} (hg:Grow c c') (hf:Foot (fun u=>TrR u t xw xb xk) c' (fun j=>c.heap.size≤j∧j<c'.heap.size)) :
    QM w A n ca paid er O N o ws bs vw vb k vk rows (t,xw,xb,xk) c':=by
 have hb:=h.q.big
 refine ⟨h.q.later hg,zE h.own hg (fun _ _ h=>h),?_⟩
 refine (((h.foot.grow hg).and hf).imp (fun u hu=>⟨hu.1.1,hu.1.2.1,fun r hr=>by
  rcases List.mem_append.1 hr with e | e
  ·exact hu.1.2.2 r e
  ·rw [List.mem_singleton.1 e];exact hu.2⟩)).mono (fun j hj=>hj.2.1) (fun j hj=>?_)
 rcases hj with hj | hj
 ·exact ⟨hj.1,Nat.lt_of_lt_of_le hj.2.1 hg.size,hj.2.2⟩
 ·exact ⟨by omega,hj.2,fun e=>by have:=(h.own.lt j e).2;omega⟩
theorem QM.grow {w:World} {A:Option Addr} {n ca:Nat} {paid er:Int} {O N:Nat} {o:Ob} {ws bs:List Int} {vw vb:Value} {k:Nat} {vk:Value} {rows:List (Tr×Value×Value×Value)} {kid:Tr×Value×Value×Value} {c c':World}
    (h:QM w A n ca paid er O N o ws bs vw vb k vk rows kid c) (hg:Grow c c'):QM w A n ca paid er O N o ws bs vw vb k vk rows kid c' :=
 ⟨h.q.later hg,zE h.own hg (fun _ _ h=>h),(h.foot.grow hg).mono (fun j hj=>hj.2.1) (fun j hj=>⟨hj.1,Nat.lt_of_lt_of_le hj.2.1 hg.size,hj.2.2⟩)⟩
theorem QM.appended {w:World} {A:Option Addr} {n ca:Nat} {paid er:Int} {O N:Nat} {o:Ob} {ws bs:List Int} {vw vb:Value} {k:Nat} {vk v4:Value} {rows:List (Tr×Value×Value×Value)} {kid:Tr×Value×Value×Value} {c c4:World} {p:Prop}
    (h:QM w A n ca paid er O N o ws bs vw vb k vk rows kid c) (hap:Apped (N+1) 114 5 vk v4 (k+1) (kcs rows++[.int .i64 kid.1.kind,.int .i64 kid.1.size,kid.2.1,kid.2.2.1,kid.2.2.2]) c c4 p)
    (hlen:rows.length=k) (htrb:∀ r,r∈rows++[kid]→TrB r.1) :
    QK w A n ca paid er O N o ws bs vw vb (k+1) v4 (rows++[kid]) (c4.setCell ⟨N,4,none⟩ v4)∧QD w A n ca paid er O N o vw vb vk c4:=by
 have hv:∀ j,vk.ownBlock=some j→N<j:=fun j hj=>(h.own.lt j hj).1
 have hk:Keep (fun j=>vk.ownBlock=some j) c c4:=(Keep.refl _ c).grown hap.grew (fun j hj=>.inl hj)
 have hq4:=h.q.keep (hk.mono (fun j hj=>hv j hj))
 have hkN:Keep (fun j=>j=N) c4 (c4.setCell ⟨N,4,none⟩ v4):=(Keep.refl (fun j=>j=N) c4).setCell (p:=⟨N,4,none⟩) (.inl rfl) _
 have hv4:∀ j,v4.ownBlock=some j→vk.ownBlock=some j∨c.heap.size≤j:=fun j hj=>(zo hap j hj).imp id (fun e=>by omega)
 have hv4N:∀ j,v4.ownBlock=some j→N<j:=fun j hj=>(hap.own.lt j hj).1
 refine ⟨⟨hq4.put4 v4,by simp [hlen],?_,?_,htrb⟩,hq4⟩
 ·have:=zE hap.own hkN (fun j hj e=>by have:=hv4N j hj;omega)
  rw [zNC]
  simpa [kcs] using this
 ·refine ((h.foot.keep hk (fun j hj e=>hj.2.2 e)).keep hkN (fun j hj e=>by have:=hj.1;omega)).mono (fun j hj=>hj.2.1) (fun j hj=>⟨hj.1,?_,fun e=>?_⟩)
  ·have:=hk.size
   have:=hkN.size
   have:=hj.2.1
   omega
  ·rcases hv4 j e with e2 | e2
   ·exact hj.2.2 e2
   ·have:=hj.2.1;omega
end Go.Proofs.YtfkcpaahdlkcdaaGreat

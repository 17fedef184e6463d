import Derived.Test.YtfkcpaahdlkcdaaGreatRRecvSum16
set_option linter.unusedSimpArgs false
set_option linter.unusedVariables false
set_option maxRecDepth 100000
set_option maxHeartbeats 16000000
namespace Go.Proofs.YtfkcpaahdlkcdaaGreat
open Go.RowKit
theorem zAF {g:Nat} {rc:RC} {w:World} (h:RCell g rc w) (session:Int) (sum:Nat) (ps:List (List Int)) (h4:ps.length≤4) (hph:rc.phase=1) (hpt:rc.part=none) (hof:rc.of=ps.length) (hses:rc.session=session) (hsum:rc.sum=sum) (i:Nat) (hi:i<ps.length) (hh:rc.h i=false) {G:Nat→Prop} (hH:Hear rc ps G w) (hgG:¬ G g) (A1:Option Addr) (c1':Nat) (hs:SliceR 1 (.slice A1 (ps[i]'hi).length c1') (ps[i]'hi).length (ints (ps[i]'hi)) w) (hsl:(ps[i]'hi).length≤4) (hsg:∀ w',Keep (fun k=>k=g) w w'→SliceR 1 (.slice A1 (ps[i]'hi).length c1') (ps[i]'hi).length (ints (ps[i]'hi)) w') (F:List Int) (hF:PagesOk ps F) (hb:((List.range ps.length).map (rc.setH i).h).contains false=false) (hq:rc.quota<8*F.sum) :
    Calls Tryz.prog 109 #[.pointer (some ⟨g,0,none⟩),.agg #[.int .i64 1,.int .u64 session,.int .i64 i,.int .i64 ps.length,.int .u32 (sum:Nat),.slice A1 (ps[i]'hi).length c1',.slice none 0 0]] w fun e w'=>∃ (b:Nat) (rc':RC),e=.returned (.slice (some ⟨b,0,none⟩) 1 1)∧OneG w' b 5 session 31 0 sum∧w.heap.size≤b∧RCell g (rc'.fail 31) w'∧rc'.st=rc.st∧Keep (fun k=>k=g) w w':=by
 have hg0:=(Keep.refl NoB w).alloc (.cells #[.int .i64 1,.int .u64 session,.int .i64 i,.int .i64 ps.length,.int .u32 (sum:Nat),.slice A1 (ps[i]'hi).length c1',.slice none 0 0] 46)
 have HZ:=LH (heap_alloc_new w (.cells #[.int .i64 1,.int .u64 session,.int .i64 i,.int .i64 ps.length,.int .u32 (sum:Nat),.slice A1 (ps[i]'hi).length c1',.slice none 0 0] 46))
 have HS:=LH (hs.grow hg0)
 have H:=LH (h.grow hg0)
 have HLT:Hid (g<w.heap.size):=LH h.lt
 have HG:=LH hg0
 have HB:=LH hb
 clear hsg
 have HHH:=LH hh
 have HHE:=LH (hH.keep hg0 (fun _ _ h=>h))
 have HGG:=LH hgG
 subst hses
 subst hsum
 clear hH hgG hh
 have HF:=LH hF
 clear hF
 have hwi:(i:Int)<4:=by omega
 have hi1:¬ ((ps.length:Int)≤i):=by omega
 clear h hg0 hs hb
 go_enter Tryz.func109,Tryz.ntmps109
 obtain ⟨z0,z1,z2,z3,z4,z5,z6,zf⟩:=zC HZ.out
 obtain ⟨c0,c1,c2,c3,c4,c5,c6,c7,c8,c9,c10,c11,c12,c13,c14,c15,c16,c17,c18,c19,c20,cf⟩:=zH H.out
 rw [hpt] at c0
 rw [hph] at c6
 go_wp2_with fail
 refine (zCB H.out 1 rc.session i ps.length rc.sum A1 none (ps[i]'hi).length c1' 0 0).mono ?_
 rintro e w1 ⟨rfl,hg⟩
 replace H:=LH (H.out.grow hg)
 replace HG:=LH (HG.out.grow hg)
 replace HZ:=LH (Grow.heap hg HZ.out)
 replace HS:=LH (HS.out.grow hg)
 replace HHE:=LH (HHE.out.keep hg (fun _ _ h=>h))
 have hdd:decide (rc.session=rc.session∧rc.sum=rc.sum)=true:=by simp
 rw [hdd]
 clear hg hdd c0 c1 c2 c3 c4 c5 c6 c7 c8 c9 c10 c11 c12 c13 c14 c15 c16 c17 c18 c19 c20 cf z0 z1 z2 z3 z4 z5 z6 zf
 obtain ⟨z0,z1,z2,z3,z4,z5,z6,zf⟩:=zC HZ.out
 obtain ⟨c0,c1,c2,c3,c4,c5,c6,c7,c8,c9,c10,c11,c12,c13,c14,c15,c16,c17,c18,c19,c20,cf⟩:=zH H.out
 rw [hpt] at c0
 rw [hph] at c6
 rw [hof] at c10
 have ch:=H.out.h_cell i (by omega)
 rw [HHH.out] at ch
 go_wp2
 refine zD [0,1,2,3,4,5,6,7,8,9,10,11,12,13,14,15] [] [1,5,10,14] [] rfl (by kernel_rfl) ?_
 refine ord_p ?_
 refine ord_r (y:=by intro w' hg;have q:=hg.cell z3 (fun h=>h);go_simp;with_reducible rfl) (z:=?_)
 iterate 3
  refine ord_p ?_
 refine ord_r (y:=by intro w' hg;have q:=hg.cell c10 (fun h=>h);go_simp;with_reducible rfl) (z:=?_)
 iterate 2
  refine ord_p ?_
 iterate 2
  refine zS ?_
 refine zY (y:=by intro w' hg;have q:=hg.cell z2 (fun h=>h);go_simp;with_reducible rfl) (z:=?_)
 iterate 3
  refine zS ?_
 refine zY (y:=by intro w' hg;have q:=hg.cell ch (fun h=>h);go_simp;with_reducible rfl) (z:=?_)
 refine ord_p ?_
 refine zF ?_
 clear z0 z1 z2 z3 z4 z5 z6 zf c0 c1 c2 c3 c4 c5 c6 c7 c8 c9 c10 c11 c12 c13 c14 c15 c16 c17 c18 c19 c20 cf ch
 replace H:=LH ((show RCell g rc w1.drew from H.out))
 replace HG:=LH (HG.out.drew)
 replace HZ:=LH ((show w1.drew.heap[_]? = _ from HZ.out))
 replace HS:=LH (HS.out.grow (Keep.refl NoB w1).drew)
 replace HHE:=LH (HHE.out.keep (Keep.refl NoB w1).drew (fun _ _ h=>h))
 generalize w1.drew=w2 at H HG HZ HS HHE ⊢
 obtain ⟨z0,z1,z2,z3,z4,z5,z6,zf⟩:=zC HZ.out
 go_wp2
 have HGN:Hid (¬ w.heap.size=g):=LH (fun e=>by have:=HLT.out;omega)
 refine zc (fun k=>k=g) [0,1,2,3,4,5,6,7,9,10,13,14,8,11,12,15,16] [8,12,16] [2,5,7] [] rfl (by kernel_rfl) ?_
 iterate 2
  refine ord_p ?_
 refine ord_r (y:=by intro w' hg;have q:=hg.cell z2 HGN.out;go_simp;with_reducible rfl) (z:=?_)
 iterate 2
  refine ord_p ?_
 refine ord_r (y:=by intro w' hg;have q:=hg.cell z2 HGN.out;go_simp;with_reducible rfl) (z:=?_)
 refine ord_p ?_
 refine ord_r (y:=by intro w' hg;have q:=hg.cell z5 HGN.out;go_simp;with_reducible rfl) (z:=?_)
 iterate 4
  refine ord_p ?_
 refine zG rfl rfl rfl rfl rfl Tryz.func178 rfl rfl [.slice A1 (ps[i]'hi).length c1'] rfl ?_
 refine (zDA _ (ps[i]'hi) w2.drew (HS.out.grow (Keep.refl NoB w2).drew) (by omega)).mono ?_
 rintro e w3 ⟨A5,c5,rfl,ho5,hg5⟩
 refine ⟨_,rfl,fun _=>hg5.mono (fun _ h=>h.elim),?_⟩
 simp only [Act.put,pB,pC,pD]
 have h3:RCell g rc w3:=H.out.grow ((Keep.refl NoB w2).drew.grow hg5)
 have ch:=h3.h_cell i (by omega)
 have cf:∀ o,w3.frozen? ⟨g,o,none⟩=false:=fun o=>zM o h3
 refine ord_p ?_
 refine zK rfl rfl rfl rfl ?_ ?_ ?_ ?_
 rotate_left
 ·go_simp;with_reducible rfl
 ·exact fun _=>zV _ _ _ _
 have h4':=h3.put (d':=rc.setH i) (11+i) (.bool true) (RC.setH_cs _ i (by omega))
 have cz:=h4'.1.z_cell i (by omega)
 have cf2:∀ o,(w3.setCell ⟨g,11+i,none⟩ (.bool true)).frozen? ⟨g,o,none⟩=false:=fun o=>zM o h4'.1
 refine ord_p ?_
 refine zK rfl rfl rfl rfl ?_ ?_ ?_ ?_
 rotate_left
 ·go_simp;with_reducible rfl
 ·exact fun _=>zV _ _ _ _
 have h5':=h4'.1.put (d':=(rc.setH i).setZ i ⟨A5,(ps[i]'hi).length,c5⟩) (15+i) (.slice A5 (ps[i]'hi).length c5) (RC.setZ_cs _ i (by omega) ⟨A5,(ps[i]'hi).length,c5⟩)
 refine zF ?_
 have hkg:=h4'.2.trans h5'.2 (fun _ h=>.inl h)
 have hgr3:=(Keep.refl NoB w2).drew.grow hg5
 have hw2:=HG.out.size
 have hdw:w2.drew.heap.size=w2.heap.size:=rfl
 have hng:∀ k,(Value.slice A5 (ps[i]'hi).length c5).ownBlock=some k→¬ k=g:=fun k hk e=>by have:=(ho5.lt k hk).1;have:=HLT.out;omega
 have HO5:=LH (zE ho5 hkg hng)
 have HO5s:Hid (∀ k,(Value.slice A5 (ps[i]'hi).length c5).ownBlock=some k→w.heap.size≤k):=LH (fun k hk=>by have:=(ho5.lt k hk).1;omega)
 replace HHE:=LH ((HHE.out.keep hgr3 (fun _ _ h=>h)).keep hkg (fun k hk e=>HGG.out (by rw [← e];exact hk)))
 replace HHE:=LH (HHE.out.more i hi h4 HO5.out)
 have HKG:=LH (((HG.out.grow hgr3).mono (T:=fun k=>k=g) (fun _ h=>h.elim)).trans hkg (fun _ h=>.inl h))
 have HNZ:=LH (And.intro h5'.1 hkg)
 clear ho5 hg5 h3 ch cf h4' cz cf2 h5' hkg hgr3 hw2 hdw hng z0 z1 z2 z3 z4 z5 z6 zf HO5
 obtain ⟨w5,hw5⟩:∃ w5,((w3.setCell ⟨g,11+i,none⟩ (.bool true)).setCell ⟨g,15+i,none⟩ (.slice A5 (ps[i]'hi).length c5))=w5:=⟨_,rfl⟩
 rw [hw5] at HHE HKG HNZ ⊢
 replace H:=LH HNZ.out.1
 have HBS:Hid (((List.range ps.length).map ((rc.setH i).setZ i ⟨A5,(ps[i]'hi).length,c5⟩).h).contains false=false):=LH (by rw [RC.setZ_h];exact HB.out)
 have hrest:=RC.set_rest rc i (by omega) ⟨A5,(ps[i]'hi).length,c5⟩
 obtain ⟨rc2,hrc2⟩:∃ r,(rc.setH i).setZ i ⟨A5,(ps[i]'hi).length,c5⟩=r:=⟨_,rfl⟩
 rw [hrc2] at H HHE HBS hrest
 have HRST:=LH hrest
 have hof2:rc2.of=ps.length:=by rw [hrest];exact hof
 clear HNZ hw5 hrc2 hrest HB HZ HS HG
 obtain ⟨c0,c1,c2,c3,c4,c5,c6,c7,c8,c9,c10,c11,c12,c13,c14,c15,c16,c17,c18,c19,c20,cf⟩:=zH H.out
 rw [hof2] at c10
 go_wp2
 have hC:=zEA _ _ HBS.out (some ⟨g,11,none⟩) 4 w5.drew (by have:=(show RCell g rc2 w5.drew from H.out).heardR ps.length h4;rw [List.length_map,List.length_range];exact this) (by rw [List.length_map,List.length_range];omega)
 rw [List.length_map,List.length_range] at hC
 have HC:=LH hC
 clear hC
 have hpl:(ps.length:Int)≤4:=by omega
 refine zD [0,1,2,3,4,5,6,7,8] [8] [6] [] rfl (by kernel_rfl) ?_
 iterate 6
  refine ord_p ?_
 refine ord_r (y:=by intro w' hg;have q:=hg.cell c10 (fun h=>h);go_simp;with_reducible rfl) (z:=?_)
 refine ord_p ?_
 refine zG rfl rfl rfl rfl rfl Tryz.func179 rfl rfl [.slice (some ⟨g,11,none⟩) ps.length 4,.bool false] rfl ?_
 refine HC.out.mono ?_
 rintro e w6 ⟨rfl,rfl⟩
 refine ⟨_,rfl,fun _=>Keep.refl _ _,?_⟩
 simp only [Act.put,pB,pC,pD]
 refine zF ?_
 clear HC c0 c1 c2 c3 c4 c5 c6 c7 c8 c9 c10 c11 c12 c13 c14 c15 c16 c17 c18 c19 c20 cf
 replace H:=LH ((show RCell g rc2 w5.drew from H.out))
 replace HHE:=LH (HHE.out.keep (Keep.refl NoB w5).drew (fun _ _ h=>h))
 replace HKG:=LH (HKG.out.drew)
 generalize w5.drew=w6 at H HHE HKG ⊢
 obtain ⟨c0,c1,c2,c3,c4,c5,c6,c7,c8,c9,c10,c11,c12,c13,c14,c15,c16,c17,c18,c19,c20,cf⟩:=zH H.out
 rw [hof2] at c10
 go_wp2
 have HKW:=LH HKG.out
 have HJ:=LH (zYB ps F HF.out (some ⟨g,15,none⟩) 4 w6.drew ((show RCell g rc2 w6.drew from H.out).pagesR (HHE.out.keep (Keep.refl NoB w6).drew (fun _ _ h=>h)) h4 HBS.out))
 refine zD [0,1,2,3,4,5,6,7,8,9,10,11,12,13] [8,12,13] [6] [] rfl (by kernel_rfl) ?_
 iterate 6
  refine ord_p ?_
 refine ord_r (y:=by intro w' hg;have q:=hg.cell c10 (fun h=>h);go_simp;with_reducible rfl) (z:=?_)
 refine ord_p ?_
 refine zG rfl rfl rfl rfl rfl Tryz.func180 rfl rfl [.slice (some ⟨g,15,none⟩) ps.length 4] rfl ?_
 refine HJ.out.mono ?_
 rintro e w7 ⟨A7,c7',rfl,hg7,ho7⟩
 refine ⟨_,rfl,fun _=>hg7,?_⟩
 simp only [Act.put,pB,pC,pD]
 iterate 3
  refine ord_p ?_
 iterate 2
  refine ord_s ?_
 refine zF ?_
 have hgr7:=(Keep.refl NoB w6).drew.grow hg7
 replace H:=LH (H.out.grow hgr7)
 replace HKG:=LH (HKG.out.grow hgr7)
 have HO7:=LH ho7
 have HKW7:=LH HKG.out
 have HO7s:Hid (w.heap.size≤w6.heap.size):=LH HKW.out.size
 clear HJ hg7 ho7 hgr7 HHE c0 c1 c2 c3 c4 c5 c6 c7 c8 c9 c10 c11 c12 c13 c14 c15 c16 c17 c18 c19 c20 cf
 obtain ⟨c0,c1,c2,c3,c4,c5,c6,c7,c8,c9,c10,c11,c12,c13,c14,c15,c16,c17,c18,c19,c20,cf⟩:=zH H.out
 go_wp2
 have hses2:rc2.session=rc.session:=by rw [HRST.out];try rfl
 have hsum2:rc2.sum=rc.sum:=by rw [HRST.out];try rfl
 have hquo2:rc2.quota=rc.quota:=by rw [HRST.out];try rfl
 have hst2:rc2.st=rc.st:=by rw [HRST.out];try rfl
 rw [hses2] at c8
 rw [hsum2] at c9
 rw [hquo2] at c4
 rw [hst2] at c5
 refine zD [0,1,2,3,4,5,6,7,8,9,10,11] [10,11] [3,8] [11] rfl (by kernel_rfl) ?_
 iterate 3
  refine ord_p ?_
 refine ord_r (y:=by intro w' hg;have q:=hg.cell c8 (fun h=>h);go_simp;with_reducible rfl) (z:=?_)
 iterate 4
  refine ord_p ?_
 refine ord_r (y:=by intro w' hg;have q:=hg.cell c9 (fun h=>h);go_simp;with_reducible rfl) (z:=?_)
 refine ord_p ?_
 refine zl rfl rfl rfl rfl ?_ ?_ ?_ ?_ ?_ ?_
 rotate_left 3
 ·go_simp;first | with_reducible rfl | (constructor <;> with_reducible rfl)
 ·simp only [Act.put,pB,pC,pD];rfl
 refine zK rfl rfl rfl rfl ?_ ?_ (fun h=>absurd (by simp) h) ?_
 rotate_left
 ·go_simp;with_reducible rfl
 refine zF ?_
 have hga:=((Keep.refl NoB w7).alloc (.cells #[.int .u64 rc.session,.slice A7 F.length c7',.int .u32 (rc.sum:Nat)] 40)).drew
 have HM:=LH (show (w7.alloc (.cells #[.int .u64 rc.session,.slice A7 F.length c7',.int .u32 (rc.sum:Nat)] 40)).drew.heap[w7.heap.size]? = _ from heap_alloc_new w7 (.cells #[.int .u64 rc.session,.slice A7 F.length c7',.int .u32 (rc.sum:Nat)] 40))
 replace H:=LH (H.out.grow hga)
 replace HKG:=LH (HKG.out.grow hga)
 replace HO7:=LH (zE HO7.out hga (fun _ _ h=>h))
 have hN7:w.heap.size≤w7.heap.size:=by have:=HKW7.out.size;exact this
 generalize hw8:(w7.alloc (.cells #[.int .u64 rc.session,.slice A7 F.length c7',.int .u32 (rc.sum:Nat)] 40)).drew=w8 at H HKG HO7 HM ⊢
 obtain ⟨N,hN⟩:∃ N,w7.heap.size=N:=⟨_,rfl⟩
 rw [hN] at HM hN7 ⊢
 clear hga hw8 hN c0 c1 c2 c3 c4 c5 c6 c7 c8 c9 c10 c11 c12 c13 c14 c15 c16 c17 c18 c19 c20 cf
 obtain ⟨c0,c1,c2,c3,c4,c5,c6,c7,c8,c9,c10,c11,c12,c13,c14,c15,c16,c17,c18,c19,c20,cf⟩:=zH H.out
 rw [hquo2] at c4
 rw [hst2] at c5
 obtain ⟨m0,m1,m2,mf⟩:=zI HM.out
 have hFP:=zN HF.out.fit
 have hF0:0≤F.sum:=zeA hFP.2.2.1
 have hw9:IntKind.i64.wrap (F.sum*8)=F.sum*8:=IntWalk.i64_in _ (by omega)
 have hgt:rc.quota<F.sum*8:=by omega
 have HMW:=LH (zPA rc.session rc.sum A7 c7' F w8.drew (SliceR.of_own (zE HO7.out (Keep.refl NoB w8).drew (fun _ _ h=>h))) HF.out.fit)
 clear hFP
 go_wp2
 refine zD [0,3,4,5,6,7,1,2,8] [1] [0,7] [] rfl (by kernel_rfl) ?_
 refine ord_r (y:=by intro w' hg;have q0:=hg.cell m0 (fun h=>h);have q1:=hg.cell m1 (fun h=>h);have q2:=hg.cell m2 (fun h=>h);go_simp;with_reducible rfl) (z:=?_)
 iterate 4
  refine ord_p ?_
 refine ord_r (y:=by intro w' hg;have q:=hg.cell c4 (fun h=>h);go_simp;with_reducible rfl) (z:=?_)
 refine zG rfl rfl rfl rfl rfl Tryz.func102 rfl rfl [.agg #[.int .u64 rc.session,.slice A7 F.length c7',.int .u32 (rc.sum:Nat)]] rfl ?_
 refine HMW.out.mono ?_
 rintro e w9' ⟨rfl,hg9⟩
 refine ⟨_,rfl,fun _=>hg9,?_⟩
 simp only [Act.put,pB,pC,pD]
 iterate 2
  refine ord_p ?_
 refine zF ?_
 have hgr9:=(Keep.refl NoB w8).drew.grow hg9
 replace H:=LH (H.out.grow hgr9)
 replace HKG:=LH (HKG.out.grow hgr9)
 replace HO7:=LH (zE HO7.out hgr9 (fun _ _ h=>h))
 replace HM:=LH (Grow.heap hgr9 HM.out)
 clear HMW hg9 hgr9 m0 m1 m2 mf c0 c1 c2 c3 c4 c5 c6 c7 c8 c9 c10 c11 c12 c13 c14 c15 c16 c17 c18 c19 c20 cf
 go_wp2_with fail
 refine (zZC H.out 31 (by omega)).mono ?_
 rintro e w10 ⟨b,rfl,hO,hb,hR,hK⟩
 have HP:=LH (show ∃ (bb:Nat) (rc':RC),b=bb∧OneG w10 bb 5 rc.session 31 0 rc.sum∧w.heap.size≤bb∧RCell g (rc'.fail 31) w10∧rc'.st=rc.st∧Keep (fun k=>k=g) w w10 from ⟨b,rc2,rfl,by rw [← hses2,← hsum2];exact hO,Nat.le_trans HKG.out.size hb,hR,hst2,HKG.out.trans hK (fun _ h=>.inl h)⟩)
 clear hO hb hR hK
 go_wp2
 go_ret
 obtain ⟨bb,rc',rfl,h1,h2,h3,h4,h5⟩:=HP.out
 exact ⟨b,rc',rfl,h1,h2,h3,h4,h5⟩
theorem zBF {g:Nat} {rc:RC} {w:World} (h:RCell g rc w) (session:Int) (sum:Nat) (ps:List (List Int)) (h4:ps.length≤4) (hph:rc.phase=0) (hpt:rc.part=none) (i:Nat) (hi:i<ps.length)   (A1:Option Addr) (c1':Nat) (hs:SliceR 1 (.slice A1 (ps[i]'hi).length c1') (ps[i]'hi).length (ints (ps[i]'hi)) w) (hsl:(ps[i]'hi).length≤4) (hsg:∀ w',Keep (fun k=>k=g) w w'→SliceR 1 (.slice A1 (ps[i]'hi).length c1') (ps[i]'hi).length (ints (ps[i]'hi)) w') (F:List Int) (hF:PagesOk ps F) (hb:((List.range ps.length).map ((rc.hearing ps.length session sum).setH i).h).contains false=false) (hq:rc.quota<8*F.sum) :
    Calls Tryz.prog 109 #[.pointer (some ⟨g,0,none⟩),.agg #[.int .i64 1,.int .u64 session,.int .i64 i,.int .i64 ps.length,.int .u32 (sum:Nat),.slice A1 (ps[i]'hi).length c1',.slice none 0 0]] w fun e w'=>∃ (b:Nat) (rc':RC),e=.returned (.slice (some ⟨b,0,none⟩) 1 1)∧OneG w' b 5 session 31 0 sum∧w.heap.size≤b∧RCell g (rc'.fail 31) w'∧rc'.st=rc.st∧Keep (fun k=>k=g) w w':=by
 have hg0:=(Keep.refl NoB w).alloc (.cells #[.int .i64 1,.int .u64 session,.int .i64 i,.int .i64 ps.length,.int .u32 (sum:Nat),.slice A1 (ps[i]'hi).length c1',.slice none 0 0] 46)
 have HZ:=LH (heap_alloc_new w (.cells #[.int .i64 1,.int .u64 session,.int .i64 i,.int .i64 ps.length,.int .u32 (sum:Nat),.slice A1 (ps[i]'hi).length c1',.slice none 0 0] 46))
 have HS:=LH (hs.grow hg0)
 have H:=LH (h.grow hg0)
 have HLT:Hid (g<w.heap.size):=LH h.lt
 have HG:=LH hg0
 have HB:=LH hb
 have HSN:Hid (∀ w',Keep (fun k=>k=g) (w.alloc (.cells #[.int .i64 1,.int .u64 session,.int .i64 i,.int .i64 ps.length,.int .u32 (sum:Nat),.slice A1 (ps[i]'hi).length c1',.slice none 0 0] 46)) w'→SliceR 1 (.slice A1 (ps[i]'hi).length c1') (ps[i]'hi).length (ints (ps[i]'hi)) w'):=LH (fun w' hk=>hsg w' ((hg0.mono (T:=fun k=>k=g) (fun _ h=>h.elim)).trans hk (fun _ h=>.inl h)))
 clear hsg
 have HF:=LH hF
 clear hF
 have hwi:(i:Int)<4:=by omega
 have hi1:¬ ((ps.length:Int)≤i):=by omega
 clear h hg0 hs hb
 go_enter Tryz.func109,Tryz.ntmps109
 obtain ⟨z0,z1,z2,z3,z4,z5,z6,zf⟩:=zC HZ.out
 obtain ⟨c0,c1,c2,c3,c4,c5,c6,c7,c8,c9,c10,c11,c12,c13,c14,c15,c16,c17,c18,c19,c20,cf⟩:=zH H.out
 rw [hpt] at c0
 rw [hph] at c6
 go_wp2
 have HGN:Hid (¬ w.heap.size=g):=LH (fun e=>by have:=HLT.out;omega)
 generalize w.alloc (.cells #[.int .i64 1,.int .u64 session,.int .i64 i,.int .i64 ps.length,.int .u32 (sum:Nat),.slice A1 (ps[i]'hi).length c1',.slice none 0 0] 46)=w1 at H HG HZ HS HSN ⊢
 clear c0 c1 c2 c3 c4 c5 c6 c7 c8 c9 c10 c11 c12 c13 c14 c15 c16 c17 c18 c19 c20 cf z0 z1 z2 z3 z4 z5 z6 zf
 obtain ⟨z0,z1,z2,z3,z4,z5,z6,zf⟩:=zC HZ.out
 obtain ⟨c0,c1,c2,c3,c4,c5,c6,c7,c8,c9,c10,c11,c12,c13,c14,c15,c16,c17,c18,c19,c20,cf⟩:=zH H.out
 refine zc (fun k=>k=g) [0,1,2,3,4,5,6,7,8,9,10,11,12,13,14,15,16,17,18,19,20,21,22] [13,16,19,22] [5,7,9] [] rfl (by kernel_rfl) ?_
 iterate 5
  refine ord_p ?_
 refine ord_r (y:=by intro w' hg;have q:=hg.cell z1 HGN.out;go_simp;with_reducible rfl) (z:=?_)
 refine ord_p ?_
 refine ord_r (y:=by intro w' hg;have q:=hg.cell z4 HGN.out;go_simp;with_reducible rfl) (z:=?_)
 refine ord_p ?_
 refine ord_r (y:=by intro w' hg;have q:=hg.cell z3 HGN.out;go_simp;with_reducible rfl) (z:=?_)
 iterate 3
  refine ord_p ?_
 refine zK rfl rfl rfl rfl ?_ ?_ ?_ ?_
 rotate_left
 ·go_simp;with_reducible rfl
 ·exact fun _=>zV _ _ _ _
 iterate 2
  refine ord_p ?_
 refine zK rfl rfl rfl rfl ?_ ?_ ?_ ?_
 rotate_left
 ·go_simp;with_reducible rfl
 ·exact fun _=>zV _ _ _ _
 iterate 2
  refine ord_p ?_
 refine zK rfl rfl rfl rfl ?_ ?_ ?_ ?_
 rotate_left
 ·go_simp;with_reducible rfl
 ·exact fun _=>zV _ _ _ _
 iterate 2
  refine ord_p ?_
 have hp1:=H.out.put (d':={ rc with phase:=1 }) 6 (.int .i64 1) rfl
 have hp2:=hp1.1.put (d':={ rc with phase:=1,session:=session }) 8 (.int .u64 session) rfl
 have hp3:=hp2.1.put (d':={ rc with phase:=1,session:=session,sum:=sum }) 9 (.int .u32 (sum:Nat)) rfl
 have hp4:=(show RCell g { rc with phase:=1,session:=session,sum:=sum } (((w1.setCell ⟨g,6,none⟩ (.int .i64 1)).setCell ⟨g,8,none⟩ (.int .u64 session)).setCell ⟨g,9,none⟩ (.int .u32 (sum:Nat))).drew from hp3.1)
 refine zhD rfl rfl rfl rfl _ _ _ rfl g 10 #[.int .i64 ps.length,.bool false,.bool false,.bool false,.bool false,.slice none 0 0,.slice none 0 0,.slice none 0 0,.slice none 0 0] rfl rfl _ _ (rc.hearing ps.length session sum).cs hp4 zTC (by simp [RC.cs]) rfl (by simp [Value.oneCell']) (fun _=>(Keep.refl (fun k=>k=g) _).setRow (.inl rfl) _) ?_
 have hr4:=setRow_heap _ g _ (rc.hearing ps.length session sum).cs _ _ hp4
 have hk4:=((((Keep.refl (fun k=>k=g) w1).trans hp1.2 (fun _ h=>.inl h)).trans hp2.2 (fun _ h=>.inl h)).trans hp3.2 (fun _ h=>.inl h)).drew.setRow (.inl rfl) (rc.hearing ps.length session sum).cs
 refine zF ?_
 replace HZ:=LH ((hk4.block _ (gE HZ.out).1 HGN.out).trans HZ.out)
 have hgs:Hid (∀ k,(Value.slice A1 (ps[i]'hi).length c1').ownBlock=some k→True):=LH (fun _ _=>trivial)
 replace HS:=LH (HSN.out _ hk4)
 replace HG:=LH ((HG.out.mono (T:=fun k=>k=g) (fun _ h=>h.elim)).trans hk4 (fun _ h=>.inl h))
 have HR4:=LH hr4
 clear hp1 hp2 hp3 hp4 hr4 hk4 hgs HSN H c0 c1 c2 c3 c4 c5 c6 c7 c8 c9 c10 c11 c12 c13 c14 c15 c16 c17 c18 c19 c20 cf z0 z1 z2 z3 z4 z5 z6 zf
 generalize World.setRow (((w1.setCell ⟨g,6,none⟩ (.int .i64 1)).setCell ⟨g,8,none⟩ (.int .u64 session)).setCell ⟨g,9,none⟩ (.int .u32 (sum:Nat))).drew g (rc.hearing ps.length session sum).cs=w9 at HR4 HG HZ HS ⊢
 have H:Hid (RCell g (rc.hearing ps.length session sum) w9):=LH HR4.out
 clear HR4
 obtain ⟨z0,z1,z2,z3,z4,z5,z6,zf⟩:=zC HZ.out
 obtain ⟨c0,c1,c2,c3,c4,c5,c6,c7,c8,c9,c10,c11,c12,c13,c14,c15,c16,c17,c18,c19,c20,cf⟩:=zH H.out
 rw [show (rc.hearing ps.length session sum).of=(ps.length:Int) from rfl] at c10
 have ch:=H.out.h_cell i (by omega)
 rw [show (rc.hearing ps.length session sum).h i=false from by unfold RC.h RC.hearing;split <;> rfl] at ch
 go_wp2
 refine zD [0,1,2,3,4,5,6,7,8,9,10,11,12,13,14,15] [] [1,5,10,14] [] rfl (by kernel_rfl) ?_
 refine ord_p ?_
 refine ord_r (y:=by intro w' hg;have q:=hg.cell z3 (fun h=>h);go_simp;with_reducible rfl) (z:=?_)
 iterate 3
  refine ord_p ?_
 refine ord_r (y:=by intro w' hg;have q:=hg.cell c10 (fun h=>h);go_simp;with_reducible rfl) (z:=?_)
 iterate 2
  refine ord_p ?_
 iterate 2
  refine zS ?_
 refine zY (y:=by intro w' hg;have q:=hg.cell z2 (fun h=>h);go_simp;with_reducible rfl) (z:=?_)
 iterate 3
  refine zS ?_
 refine zY (y:=by intro w' hg;have q:=hg.cell ch (fun h=>h);go_simp;with_reducible rfl) (z:=?_)
 refine ord_p ?_
 refine zF ?_
 clear z0 z1 z2 z3 z4 z5 z6 zf c0 c1 c2 c3 c4 c5 c6 c7 c8 c9 c10 c11 c12 c13 c14 c15 c16 c17 c18 c19 c20 cf ch
 replace H:=LH ((show RCell g (rc.hearing ps.length session sum) w9.drew from H.out))
 replace HG:=LH (HG.out.drew)
 replace HZ:=LH ((show w9.drew.heap[_]? = _ from HZ.out))
 replace HS:=LH (HS.out.grow (Keep.refl NoB w9).drew)
 generalize w9.drew=w2 at H HG HZ HS ⊢
 obtain ⟨z0,z1,z2,z3,z4,z5,z6,zf⟩:=zC HZ.out
 go_wp2
 refine zc (fun k=>k=g) [0,1,2,3,4,5,6,7,9,10,13,14,8,11,12,15,16] [8,12,16] [2,5,7] [] rfl (by kernel_rfl) ?_
 iterate 2
  refine ord_p ?_
 refine ord_r (y:=by intro w' hg;have q:=hg.cell z2 HGN.out;go_simp;with_reducible rfl) (z:=?_)
 iterate 2
  refine ord_p ?_
 refine ord_r (y:=by intro w' hg;have q:=hg.cell z2 HGN.out;go_simp;with_reducible rfl) (z:=?_)
 refine ord_p ?_
 refine ord_r (y:=by intro w' hg;have q:=hg.cell z5 HGN.out;go_simp;with_reducible rfl) (z:=?_)
 iterate 4
  refine ord_p ?_
 refine zG rfl rfl rfl rfl rfl Tryz.func178 rfl rfl [.slice A1 (ps[i]'hi).length c1'] rfl ?_
 refine (zDA _ (ps[i]'hi) w2.drew (HS.out.grow (Keep.refl NoB w2).drew) (by omega)).mono ?_
 rintro e w3 ⟨A5,c5,rfl,ho5,hg5⟩
 refine ⟨_,rfl,fun _=>hg5.mono (fun _ h=>h.elim),?_⟩
 simp only [Act.put,pB,pC,pD]
 have h3:RCell g (rc.hearing ps.length session sum) w3:=H.out.grow ((Keep.refl NoB w2).drew.grow hg5)
 have ch:=h3.h_cell i (by omega)
 have cf:∀ o,w3.frozen? ⟨g,o,none⟩=false:=fun o=>zM o h3
 refine ord_p ?_
 refine zK rfl rfl rfl rfl ?_ ?_ ?_ ?_
 rotate_left
 ·go_simp;with_reducible rfl
 ·exact fun _=>zV _ _ _ _
 have h4':=h3.put (d':=(rc.hearing ps.length session sum).setH i) (11+i) (.bool true) (RC.setH_cs _ i (by omega))
 have cz:=h4'.1.z_cell i (by omega)
 have cf2:∀ o,(w3.setCell ⟨g,11+i,none⟩ (.bool true)).frozen? ⟨g,o,none⟩=false:=fun o=>zM o h4'.1
 refine ord_p ?_
 refine zK rfl rfl rfl rfl ?_ ?_ ?_ ?_
 rotate_left
 ·go_simp;with_reducible rfl
 ·exact fun _=>zV _ _ _ _
 have h5':=h4'.1.put (d':=((rc.hearing ps.length session sum).setH i).setZ i ⟨A5,(ps[i]'hi).length,c5⟩) (15+i) (.slice A5 (ps[i]'hi).length c5) (RC.setZ_cs _ i (by omega) ⟨A5,(ps[i]'hi).length,c5⟩)
 refine zF ?_
 have hkg:=h4'.2.trans h5'.2 (fun _ h=>.inl h)
 have hgr3:=(Keep.refl NoB w2).drew.grow hg5
 have hw2:=HG.out.size
 have hdw:w2.drew.heap.size=w2.heap.size:=rfl
 have hng:∀ k,(Value.slice A5 (ps[i]'hi).length c5).ownBlock=some k→¬ k=g:=fun k hk e=>by have:=(ho5.lt k hk).1;have:=HLT.out;omega
 have HO5:=LH (zE ho5 hkg hng)
 have HO5s:Hid (∀ k,(Value.slice A5 (ps[i]'hi).length c5).ownBlock=some k→w.heap.size≤k):=LH (fun k hk=>by have:=(ho5.lt k hk).1;omega)
 have HHE:=LH (Hear.none (rc:=(rc.hearing ps.length session sum)) (ps:=ps) (fun j=>by unfold RC.h RC.hearing;split <;> rfl) ((w3.setCell ⟨g,11+i,none⟩ (.bool true)).setCell ⟨g,15+i,none⟩ (.slice A5 (ps[i]'hi).length c5)))
 replace HHE:=LH (HHE.out.more i hi h4 HO5.out)
 have HKG:=LH ((HG.out.grow hgr3).trans hkg (fun _ h=>.inl h))
 have HNZ:=LH (And.intro h5'.1 hkg)
 clear ho5 hg5 h3 ch cf h4' cz cf2 h5' hkg hgr3 hw2 hdw hng z0 z1 z2 z3 z4 z5 z6 zf HO5
 obtain ⟨w5,hw5⟩:∃ w5,((w3.setCell ⟨g,11+i,none⟩ (.bool true)).setCell ⟨g,15+i,none⟩ (.slice A5 (ps[i]'hi).length c5))=w5:=⟨_,rfl⟩
 rw [hw5] at HHE HKG HNZ ⊢
 replace H:=LH HNZ.out.1
 have HBS:Hid (((List.range ps.length).map (((rc.hearing ps.length session sum).setH i).setZ i ⟨A5,(ps[i]'hi).length,c5⟩).h).contains false=false):=LH (by rw [RC.setZ_h];exact HB.out)
 have hrest:=RC.set_rest (rc.hearing ps.length session sum) i (by omega) ⟨A5,(ps[i]'hi).length,c5⟩
 obtain ⟨rc2,hrc2⟩:∃ r,((rc.hearing ps.length session sum).setH i).setZ i ⟨A5,(ps[i]'hi).length,c5⟩=r:=⟨_,rfl⟩
 rw [hrc2] at H HHE HBS hrest
 have HRST:=LH hrest
 have hof2:rc2.of=ps.length:=by rw [hrest];rfl
 clear HNZ hw5 hrc2 hrest HB HZ HS HG
 obtain ⟨c0,c1,c2,c3,c4,c5,c6,c7,c8,c9,c10,c11,c12,c13,c14,c15,c16,c17,c18,c19,c20,cf⟩:=zH H.out
 rw [hof2] at c10
 go_wp2
 have hC:=zEA _ _ HBS.out (some ⟨g,11,none⟩) 4 w5.drew (by have:=(show RCell g rc2 w5.drew from H.out).heardR ps.length h4;rw [List.length_map,List.length_range];exact this) (by rw [List.length_map,List.length_range];omega)
 rw [List.length_map,List.length_range] at hC
 have HC:=LH hC
 clear hC
 have hpl:(ps.length:Int)≤4:=by omega
 refine zD [0,1,2,3,4,5,6,7,8] [8] [6] [] rfl (by kernel_rfl) ?_
 iterate 6
  refine ord_p ?_
 refine ord_r (y:=by intro w' hg;have q:=hg.cell c10 (fun h=>h);go_simp;with_reducible rfl) (z:=?_)
 refine ord_p ?_
 refine zG rfl rfl rfl rfl rfl Tryz.func179 rfl rfl [.slice (some ⟨g,11,none⟩) ps.length 4,.bool false] rfl ?_
 refine HC.out.mono ?_
 rintro e w6 ⟨rfl,rfl⟩
 refine ⟨_,rfl,fun _=>Keep.refl _ _,?_⟩
 simp only [Act.put,pB,pC,pD]
 refine zF ?_
 clear HC c0 c1 c2 c3 c4 c5 c6 c7 c8 c9 c10 c11 c12 c13 c14 c15 c16 c17 c18 c19 c20 cf
 replace H:=LH ((show RCell g rc2 w5.drew from H.out))
 replace HHE:=LH (HHE.out.keep (Keep.refl NoB w5).drew (fun _ _ h=>h))
 replace HKG:=LH (HKG.out.drew)
 generalize w5.drew=w6 at H HHE HKG ⊢
 obtain ⟨c0,c1,c2,c3,c4,c5,c6,c7,c8,c9,c10,c11,c12,c13,c14,c15,c16,c17,c18,c19,c20,cf⟩:=zH H.out
 rw [hof2] at c10
 go_wp2
 have HKW:=LH HKG.out
 have HJ:=LH (zYB ps F HF.out (some ⟨g,15,none⟩) 4 w6.drew ((show RCell g rc2 w6.drew from H.out).pagesR (HHE.out.keep (Keep.refl NoB w6).drew (fun _ _ h=>h)) h4 HBS.out))
 refine zD [0,1,2,3,4,5,6,7,8,9,10,11,12,13] [8,12,13] [6] [] rfl (by kernel_rfl) ?_
 iterate 6
  refine ord_p ?_
 refine ord_r (y:=by intro w' hg;have q:=hg.cell c10 (fun h=>h);go_simp;with_reducible rfl) (z:=?_)
 refine ord_p ?_
 refine zG rfl rfl rfl rfl rfl Tryz.func180 rfl rfl [.slice (some ⟨g,15,none⟩) ps.length 4] rfl ?_
 refine HJ.out.mono ?_
 rintro e w7 ⟨A7,c7',rfl,hg7,ho7⟩
 refine ⟨_,rfl,fun _=>hg7,?_⟩
 simp only [Act.put,pB,pC,pD]
 iterate 3
  refine ord_p ?_
 iterate 2
  refine ord_s ?_
 refine zF ?_
 have hgr7:=(Keep.refl NoB w6).drew.grow hg7
 replace H:=LH (H.out.grow hgr7)
 replace HKG:=LH (HKG.out.grow hgr7)
 have HO7:=LH ho7
 have HKW7:=LH HKG.out
 have HO7s:Hid (w.heap.size≤w6.heap.size):=LH HKW.out.size
 clear HJ hg7 ho7 hgr7 HHE c0 c1 c2 c3 c4 c5 c6 c7 c8 c9 c10 c11 c12 c13 c14 c15 c16 c17 c18 c19 c20 cf
 obtain ⟨c0,c1,c2,c3,c4,c5,c6,c7,c8,c9,c10,c11,c12,c13,c14,c15,c16,c17,c18,c19,c20,cf⟩:=zH H.out
 go_wp2
 have hses2:rc2.session=session:=by rw [HRST.out];try rfl
 have hsum2:rc2.sum=sum:=by rw [HRST.out];try rfl
 have hquo2:rc2.quota=rc.quota:=by rw [HRST.out];try rfl
 have hst2:rc2.st=rc.st:=by rw [HRST.out];try rfl
 rw [hses2] at c8
 rw [hsum2] at c9
 rw [hquo2] at c4
 rw [hst2] at c5
 refine zD [0,1,2,3,4,5,6,7,8,9,10,11] [10,11] [3,8] [11] rfl (by kernel_rfl) ?_
 iterate 3
  refine ord_p ?_
 refine ord_r (y:=by intro w' hg;have q:=hg.cell c8 (fun h=>h);go_simp;with_reducible rfl) (z:=?_)
 iterate 4
  refine ord_p ?_
 refine ord_r (y:=by intro w' hg;have q:=hg.cell c9 (fun h=>h);go_simp;with_reducible rfl) (z:=?_)
 refine ord_p ?_
 refine zl rfl rfl rfl rfl ?_ ?_ ?_ ?_ ?_ ?_
 rotate_left 3
 ·go_simp;first | with_reducible rfl | (constructor <;> with_reducible rfl)
 ·simp only [Act.put,pB,pC,pD];rfl
 refine zK rfl rfl rfl rfl ?_ ?_ (fun h=>absurd (by simp) h) ?_
 rotate_left
 ·go_simp;with_reducible rfl
 refine zF ?_
 have hga:=((Keep.refl NoB w7).alloc (.cells #[.int .u64 session,.slice A7 F.length c7',.int .u32 (sum:Nat)] 40)).drew
 have HM:=LH (show (w7.alloc (.cells #[.int .u64 session,.slice A7 F.length c7',.int .u32 (sum:Nat)] 40)).drew.heap[w7.heap.size]? = _ from heap_alloc_new w7 (.cells #[.int .u64 session,.slice A7 F.length c7',.int .u32 (sum:Nat)] 40))
 replace H:=LH (H.out.grow hga)
 replace HKG:=LH (HKG.out.grow hga)
 replace HO7:=LH (zE HO7.out hga (fun _ _ h=>h))
 have hN7:w.heap.size≤w7.heap.size:=by have:=HKW7.out.size;exact this
 generalize hw8:(w7.alloc (.cells #[.int .u64 session,.slice A7 F.length c7',.int .u32 (sum:Nat)] 40)).drew=w8 at H HKG HO7 HM ⊢
 obtain ⟨N,hN⟩:∃ N,w7.heap.size=N:=⟨_,rfl⟩
 rw [hN] at HM hN7 ⊢
 clear hga hw8 hN c0 c1 c2 c3 c4 c5 c6 c7 c8 c9 c10 c11 c12 c13 c14 c15 c16 c17 c18 c19 c20 cf
 obtain ⟨c0,c1,c2,c3,c4,c5,c6,c7,c8,c9,c10,c11,c12,c13,c14,c15,c16,c17,c18,c19,c20,cf⟩:=zH H.out
 rw [hquo2] at c4
 rw [hst2] at c5
 obtain ⟨m0,m1,m2,mf⟩:=zI HM.out
 have hFP:=zN HF.out.fit
 have hF0:0≤F.sum:=zeA hFP.2.2.1
 have hw9:IntKind.i64.wrap (F.sum*8)=F.sum*8:=IntWalk.i64_in _ (by omega)
 have hgt:rc.quota<F.sum*8:=by omega
 have HMW:=LH (zPA session sum A7 c7' F w8.drew (SliceR.of_own (zE HO7.out (Keep.refl NoB w8).drew (fun _ _ h=>h))) HF.out.fit)
 clear hFP
 go_wp2
 refine zD [0,3,4,5,6,7,1,2,8] [1] [0,7] [] rfl (by kernel_rfl) ?_
 refine ord_r (y:=by intro w' hg;have q0:=hg.cell m0 (fun h=>h);have q1:=hg.cell m1 (fun h=>h);have q2:=hg.cell m2 (fun h=>h);go_simp;with_reducible rfl) (z:=?_)
 iterate 4
  refine ord_p ?_
 refine ord_r (y:=by intro w' hg;have q:=hg.cell c4 (fun h=>h);go_simp;with_reducible rfl) (z:=?_)
 refine zG rfl rfl rfl rfl rfl Tryz.func102 rfl rfl [.agg #[.int .u64 session,.slice A7 F.length c7',.int .u32 (sum:Nat)]] rfl ?_
 refine HMW.out.mono ?_
 rintro e w9' ⟨rfl,hg9⟩
 refine ⟨_,rfl,fun _=>hg9,?_⟩
 simp only [Act.put,pB,pC,pD]
 iterate 2
  refine ord_p ?_
 refine zF ?_
 have hgr9:=(Keep.refl NoB w8).drew.grow hg9
 replace H:=LH (H.out.grow hgr9)
 replace HKG:=LH (HKG.out.grow hgr9)
 replace HO7:=LH (zE HO7.out hgr9 (fun _ _ h=>h))
 replace HM:=LH (Grow.heap hgr9 HM.out)
 clear HMW hg9 hgr9 m0 m1 m2 mf c0 c1 c2 c3 c4 c5 c6 c7 c8 c9 c10 c11 c12 c13 c14 c15 c16 c17 c18 c19 c20 cf
 go_wp2_with fail
 refine (zZC H.out 31 (by omega)).mono ?_
 rintro e w10 ⟨b,rfl,hO,hb,hR,hK⟩
 have HP:=LH (show ∃ (bb:Nat) (rc':RC),b=bb∧OneG w10 bb 5 session 31 0 sum∧w.heap.size≤bb∧RCell g (rc'.fail 31) w10∧rc'.st=rc.st∧Keep (fun k=>k=g) w w10 from ⟨b,rc2,rfl,by rw [← hses2,← hsum2];exact hO,Nat.le_trans HKG.out.size hb,hR,hst2,HKG.out.trans hK (fun _ h=>.inl h)⟩)
 clear hO hb hR hK
 go_wp2
 go_ret
 obtain ⟨bb,rc',rfl,h1,h2,h3,h4,h5⟩:=HP.out
 exact ⟨b,rc',rfl,h1,h2,h3,h4,h5⟩
theorem zmG {g:Nat} {rc:RC} {w:World} (h:RCell g rc w) (session:Int) (sum:Nat) (ps:List (List Int)) (h4:ps.length≤4) (hph:rc.phase=1) (hpt:rc.part=none) (hof:rc.of=ps.length) (hses:rc.session=session) (hsum:rc.sum=sum) (i:Nat) (hi:i<ps.length) (hh:rc.h i=false) {G:Nat→Prop} (hH:Hear rc ps G w) (hgG:¬ G g) (A1:Option Addr) (c1':Nat) (hs:SliceR 1 (.slice A1 (ps[i]'hi).length c1') (ps[i]'hi).length (ints (ps[i]'hi)) w) (hsl:(ps[i]'hi).length≤4) (hsg:∀ w',Keep (fun k=>k=g) w w'→SliceR 1 (.slice A1 (ps[i]'hi).length c1') (ps[i]'hi).length (ints (ps[i]'hi)) w') (F:List Int) (hF:PagesOk ps F) (hb:((List.range ps.length).map (rc.setH i).h).contains false=false) (hq:8*F.sum≤rc.quota) (h01:0≤session∧session≤18446744073709551615) (hsm:sum<4294967296) {k:KS} {Gk:Nat→Prop} (hK:KAt rc.st k Gk w) (hgGk:¬ Gk g) (hkn:k.lo.n≤4096) (hgk:¬ KF rc.st k g) (hGk:∀ j,G j→¬ KF rc.st k j) :
    Calls Tryz.prog 109 #[.pointer (some ⟨g,0,none⟩),.agg #[.int .i64 1,.int .u64 session,.int .i64 i,.int .i64 ps.length,.int .u32 (sum:Nat),.slice A1 (ps[i]'hi).length c1',.slice none 0 0]] w fun e w'=>e=.returned (.slice none 0 0)∧∃ (rc':RC) (b:Nat) (p:PP) (Gp:Nat→Prop) (A:Option Addr) (c m:Nat),RCell g (rc'.begin ⟨b,0,none⟩ session sum) w'∧rc'.st=rc.st∧rc'.quota=rc.quota∧rc'.resumed=rc.resumed∧rc'.err=rc.err∧PAt b p ⟨session,F,sum,List.replicate F.sum.toNat 0,makeB (chunksN F)⟩ Gp w'∧KAt rc.st ((k.clear m).step A c) NoB w'∧Keep (fun j=>j=g∨KF rc.st k j) w w'∧w.heap.size≤b∧w.heap.size≤p.wb∧(∀ j,Gp j→w.heap.size≤j)∧∀ j,KF rc.st ((k.clear m).step A c) j→(KF rc.st k j∨w.heap.size≤j)∧j≠b∧j≠p.wb∧¬ Gp j:=by
 have hg0:=(Keep.refl NoB w).alloc (.cells #[.int .i64 1,.int .u64 session,.int .i64 i,.int .i64 ps.length,.int .u32 (sum:Nat),.slice A1 (ps[i]'hi).length c1',.slice none 0 0] 46)
 have HZ:=LH (heap_alloc_new w (.cells #[.int .i64 1,.int .u64 session,.int .i64 i,.int .i64 ps.length,.int .u32 (sum:Nat),.slice A1 (ps[i]'hi).length c1',.slice none 0 0] 46))
 have HS:=LH (hs.grow hg0)
 have H:=LH (h.grow hg0)
 have HLT:Hid (g<w.heap.size):=LH h.lt
 have HG:=LH hg0
 have HB:=LH hb
 clear hsg
 have HHH:=LH hh
 have HHE:=LH (hH.keep hg0 (fun _ _ h=>h))
 have HGG:=LH hgG
 subst hses
 subst hsum
 clear hH hgG hh
 have HF:=LH hF
 clear hF
 have HK:=LH (hK.grow hg0)
 have HGK:=LH (And.intro hgk hgGk)
 have HKS:=LH hK.small
 clear hK hgk hgGk
 have HKG:=LH hGk
 clear hGk
 have HSS:=LH (And.intro h01 hsm)
 clear h01 hsm
 have hwi:(i:Int)<4:=by omega
 have hi1:¬ ((ps.length:Int)≤i):=by omega
 clear h hg0 hs hb
 go_enter Tryz.func109,Tryz.ntmps109
 obtain ⟨z0,z1,z2,z3,z4,z5,z6,zf⟩:=zC HZ.out
 obtain ⟨c0,c1,c2,c3,c4,c5,c6,c7,c8,c9,c10,c11,c12,c13,c14,c15,c16,c17,c18,c19,c20,cf⟩:=zH H.out
 rw [hpt] at c0
 rw [hph] at c6
 go_wp2_with fail
 refine (zCB H.out 1 rc.session i ps.length rc.sum A1 none (ps[i]'hi).length c1' 0 0).mono ?_
 rintro e w1 ⟨rfl,hg⟩
 replace H:=LH (H.out.grow hg)
 replace HG:=LH (HG.out.grow hg)
 replace HZ:=LH (Grow.heap hg HZ.out)
 replace HS:=LH (HS.out.grow hg)
 replace HHE:=LH (HHE.out.keep hg (fun _ _ h=>h))
 replace HK:=LH (HK.out.grow hg)
 have hdd:decide (rc.session=rc.session∧rc.sum=rc.sum)=true:=by simp
 rw [hdd]
 clear hg hdd c0 c1 c2 c3 c4 c5 c6 c7 c8 c9 c10 c11 c12 c13 c14 c15 c16 c17 c18 c19 c20 cf z0 z1 z2 z3 z4 z5 z6 zf
 obtain ⟨z0,z1,z2,z3,z4,z5,z6,zf⟩:=zC HZ.out
 obtain ⟨c0,c1,c2,c3,c4,c5,c6,c7,c8,c9,c10,c11,c12,c13,c14,c15,c16,c17,c18,c19,c20,cf⟩:=zH H.out
 rw [hpt] at c0
 rw [hph] at c6
 rw [hof] at c10
 have ch:=H.out.h_cell i (by omega)
 rw [HHH.out] at ch
 go_wp2
 refine zD [0,1,2,3,4,5,6,7,8,9,10,11,12,13,14,15] [] [1,5,10,14] [] rfl (by kernel_rfl) ?_
 refine ord_p ?_
 refine ord_r (y:=by intro w' hg;have q:=hg.cell z3 (fun h=>h);go_simp;with_reducible rfl) (z:=?_)
 iterate 3
  refine ord_p ?_
 refine ord_r (y:=by intro w' hg;have q:=hg.cell c10 (fun h=>h);go_simp;with_reducible rfl) (z:=?_)
 iterate 2
  refine ord_p ?_
 iterate 2
  refine zS ?_
 refine zY (y:=by intro w' hg;have q:=hg.cell z2 (fun h=>h);go_simp;with_reducible rfl) (z:=?_)
 iterate 3
  refine zS ?_
 refine zY (y:=by intro w' hg;have q:=hg.cell ch (fun h=>h);go_simp;with_reducible rfl) (z:=?_)
 refine ord_p ?_
 refine zF ?_
 clear z0 z1 z2 z3 z4 z5 z6 zf c0 c1 c2 c3 c4 c5 c6 c7 c8 c9 c10 c11 c12 c13 c14 c15 c16 c17 c18 c19 c20 cf ch
 replace H:=LH ((show RCell g rc w1.drew from H.out))
 replace HG:=LH (HG.out.drew)
 replace HZ:=LH ((show w1.drew.heap[_]? = _ from HZ.out))
 replace HS:=LH (HS.out.grow (Keep.refl NoB w1).drew)
 replace HHE:=LH (HHE.out.keep (Keep.refl NoB w1).drew (fun _ _ h=>h))
 replace HK:=LH (HK.out.grow (Keep.refl NoB w1).drew)
 generalize w1.drew=w2 at H HG HZ HS HHE HK ⊢
 obtain ⟨z0,z1,z2,z3,z4,z5,z6,zf⟩:=zC HZ.out
 go_wp2
 have HGN:Hid (¬ w.heap.size=g):=LH (fun e=>by have:=HLT.out;omega)
 refine zc (fun k=>k=g) [0,1,2,3,4,5,6,7,9,10,13,14,8,11,12,15,16] [8,12,16] [2,5,7] [] rfl (by kernel_rfl) ?_
 iterate 2
  refine ord_p ?_
 refine ord_r (y:=by intro w' hg;have q:=hg.cell z2 HGN.out;go_simp;with_reducible rfl) (z:=?_)
 iterate 2
  refine ord_p ?_
 refine ord_r (y:=by intro w' hg;have q:=hg.cell z2 HGN.out;go_simp;with_reducible rfl) (z:=?_)
 refine ord_p ?_
 refine ord_r (y:=by intro w' hg;have q:=hg.cell z5 HGN.out;go_simp;with_reducible rfl) (z:=?_)
 iterate 4
  refine ord_p ?_
 refine zG rfl rfl rfl rfl rfl Tryz.func178 rfl rfl [.slice A1 (ps[i]'hi).length c1'] rfl ?_
 refine (zDA _ (ps[i]'hi) w2.drew (HS.out.grow (Keep.refl NoB w2).drew) (by omega)).mono ?_
 rintro e w3 ⟨A5,c5,rfl,ho5,hg5⟩
 refine ⟨_,rfl,fun _=>hg5.mono (fun _ h=>h.elim),?_⟩
 simp only [Act.put,pB,pC,pD]
 have h3:RCell g rc w3:=H.out.grow ((Keep.refl NoB w2).drew.grow hg5)
 have ch:=h3.h_cell i (by omega)
 have cf:∀ o,w3.frozen? ⟨g,o,none⟩=false:=fun o=>zM o h3
 refine ord_p ?_
 refine zK rfl rfl rfl rfl ?_ ?_ ?_ ?_
 rotate_left
 ·go_simp;with_reducible rfl
 ·exact fun _=>zV _ _ _ _
 have h4':=h3.put (d':=rc.setH i) (11+i) (.bool true) (RC.setH_cs _ i (by omega))
 have cz:=h4'.1.z_cell i (by omega)
 have cf2:∀ o,(w3.setCell ⟨g,11+i,none⟩ (.bool true)).frozen? ⟨g,o,none⟩=false:=fun o=>zM o h4'.1
 refine ord_p ?_
 refine zK rfl rfl rfl rfl ?_ ?_ ?_ ?_
 rotate_left
 ·go_simp;with_reducible rfl
 ·exact fun _=>zV _ _ _ _
 have h5':=h4'.1.put (d':=(rc.setH i).setZ i ⟨A5,(ps[i]'hi).length,c5⟩) (15+i) (.slice A5 (ps[i]'hi).length c5) (RC.setZ_cs _ i (by omega) ⟨A5,(ps[i]'hi).length,c5⟩)
 refine zF ?_
 have hkg:=h4'.2.trans h5'.2 (fun _ h=>.inl h)
 have hgr3:=(Keep.refl NoB w2).drew.grow hg5
 have hw2:=HG.out.size
 have hdw:w2.drew.heap.size=w2.heap.size:=rfl
 have hng:∀ k,(Value.slice A5 (ps[i]'hi).length c5).ownBlock=some k→¬ k=g:=fun k hk e=>by have:=(ho5.lt k hk).1;have:=HLT.out;omega
 have HO5:=LH (zE ho5 hkg hng)
 have HO5s:Hid (∀ k,(Value.slice A5 (ps[i]'hi).length c5).ownBlock=some k→w.heap.size≤k):=LH (fun k hk=>by have:=(ho5.lt k hk).1;omega)
 replace HHE:=LH ((HHE.out.keep hgr3 (fun _ _ h=>h)).keep hkg (fun k hk e=>HGG.out (by rw [← e];exact hk)))
 replace HHE:=LH (HHE.out.more i hi h4 HO5.out)
 have HKG:=LH (((HG.out.grow hgr3).mono (T:=fun k=>k=g) (fun _ h=>h.elim)).trans hkg (fun _ h=>.inl h))
 replace HK:=LH ((HK.out.grow hgr3).keep hkg (fun j hj e=>HGK.out.1 (by rw [← e];exact hj)) (fun j hj e=>HGK.out.2 (by rw [← e];exact hj)))
 have HNZ:=LH (And.intro h5'.1 hkg)
 clear ho5 hg5 h3 ch cf h4' cz cf2 h5' hkg hgr3 hw2 hdw hng z0 z1 z2 z3 z4 z5 z6 zf HO5
 obtain ⟨w5,hw5⟩:∃ w5,((w3.setCell ⟨g,11+i,none⟩ (.bool true)).setCell ⟨g,15+i,none⟩ (.slice A5 (ps[i]'hi).length c5))=w5:=⟨_,rfl⟩
 rw [hw5] at HHE HKG HNZ HK ⊢
 replace H:=LH HNZ.out.1
 have HBS:Hid (((List.range ps.length).map ((rc.setH i).setZ i ⟨A5,(ps[i]'hi).length,c5⟩).h).contains false=false):=LH (by rw [RC.setZ_h];exact HB.out)
 have hrest:=RC.set_rest rc i (by omega) ⟨A5,(ps[i]'hi).length,c5⟩
 obtain ⟨rc2,hrc2⟩:∃ r,(rc.setH i).setZ i ⟨A5,(ps[i]'hi).length,c5⟩=r:=⟨_,rfl⟩
 rw [hrc2] at H HHE HBS hrest
 have HRST:=LH hrest
 have hof2:rc2.of=ps.length:=by rw [hrest];exact hof
 clear HNZ hw5 hrc2 hrest HB HZ HS HG
 obtain ⟨c0,c1,c2,c3,c4,c5,c6,c7,c8,c9,c10,c11,c12,c13,c14,c15,c16,c17,c18,c19,c20,cf⟩:=zH H.out
 rw [hof2] at c10
 go_wp2
 have hC:=zEA _ _ HBS.out (some ⟨g,11,none⟩) 4 w5.drew (by have:=(show RCell g rc2 w5.drew from H.out).heardR ps.length h4;rw [List.length_map,List.length_range];exact this) (by rw [List.length_map,List.length_range];omega)
 rw [List.length_map,List.length_range] at hC
 have HC:=LH hC
 clear hC
 have hpl:(ps.length:Int)≤4:=by omega
 refine zD [0,1,2,3,4,5,6,7,8] [8] [6] [] rfl (by kernel_rfl) ?_
 iterate 6
  refine ord_p ?_
 refine ord_r (y:=by intro w' hg;have q:=hg.cell c10 (fun h=>h);go_simp;with_reducible rfl) (z:=?_)
 refine ord_p ?_
 refine zG rfl rfl rfl rfl rfl Tryz.func179 rfl rfl [.slice (some ⟨g,11,none⟩) ps.length 4,.bool false] rfl ?_
 refine HC.out.mono ?_
 rintro e w6 ⟨rfl,rfl⟩
 refine ⟨_,rfl,fun _=>Keep.refl _ _,?_⟩
 simp only [Act.put,pB,pC,pD]
 refine zF ?_
 clear HC c0 c1 c2 c3 c4 c5 c6 c7 c8 c9 c10 c11 c12 c13 c14 c15 c16 c17 c18 c19 c20 cf
 replace H:=LH ((show RCell g rc2 w5.drew from H.out))
 replace HHE:=LH (HHE.out.keep (Keep.refl NoB w5).drew (fun _ _ h=>h))
 replace HKG:=LH (HKG.out.drew)
 replace HK:=LH (HK.out.grow (Keep.refl NoB w5).drew)
 generalize w5.drew=w6 at H HHE HKG HK ⊢
 obtain ⟨c0,c1,c2,c3,c4,c5,c6,c7,c8,c9,c10,c11,c12,c13,c14,c15,c16,c17,c18,c19,c20,cf⟩:=zH H.out
 rw [hof2] at c10
 go_wp2
 have HKW:=LH HKG.out
 have HJ:=LH (zYB ps F HF.out (some ⟨g,15,none⟩) 4 w6.drew ((show RCell g rc2 w6.drew from H.out).pagesR (HHE.out.keep (Keep.refl NoB w6).drew (fun _ _ h=>h)) h4 HBS.out))
 refine zD [0,1,2,3,4,5,6,7,8,9,10,11,12,13] [8,12,13] [6] [] rfl (by kernel_rfl) ?_
 iterate 6
  refine ord_p ?_
 refine ord_r (y:=by intro w' hg;have q:=hg.cell c10 (fun h=>h);go_simp;with_reducible rfl) (z:=?_)
 refine ord_p ?_
 refine zG rfl rfl rfl rfl rfl Tryz.func180 rfl rfl [.slice (some ⟨g,15,none⟩) ps.length 4] rfl ?_
 refine HJ.out.mono ?_
 rintro e w7 ⟨A7,c7',rfl,hg7,ho7⟩
 refine ⟨_,rfl,fun _=>hg7,?_⟩
 simp only [Act.put,pB,pC,pD]
 iterate 3
  refine ord_p ?_
 iterate 2
  refine ord_s ?_
 refine zF ?_
 have hgr7:=(Keep.refl NoB w6).drew.grow hg7
 replace H:=LH (H.out.grow hgr7)
 replace HKG:=LH (HKG.out.grow hgr7)
 replace HK:=LH (HK.out.grow hgr7)
 have HO7:=LH ho7
 have HKW7:=LH HKG.out
 have HO7s:Hid (w.heap.size≤w6.heap.size):=LH HKW.out.size
 clear HJ hg7 ho7 hgr7 HHE c0 c1 c2 c3 c4 c5 c6 c7 c8 c9 c10 c11 c12 c13 c14 c15 c16 c17 c18 c19 c20 cf
 obtain ⟨c0,c1,c2,c3,c4,c5,c6,c7,c8,c9,c10,c11,c12,c13,c14,c15,c16,c17,c18,c19,c20,cf⟩:=zH H.out
 go_wp2
 have hses2:rc2.session=rc.session:=by rw [HRST.out];try rfl
 have hsum2:rc2.sum=rc.sum:=by rw [HRST.out];try rfl
 have hquo2:rc2.quota=rc.quota:=by rw [HRST.out];try rfl
 have hst2:rc2.st=rc.st:=by rw [HRST.out];try rfl
 rw [hses2] at c8
 rw [hsum2] at c9
 rw [hquo2] at c4
 rw [hst2] at c5
 refine zD [0,1,2,3,4,5,6,7,8,9,10,11] [10,11] [3,8] [11] rfl (by kernel_rfl) ?_
 iterate 3
  refine ord_p ?_
 refine ord_r (y:=by intro w' hg;have q:=hg.cell c8 (fun h=>h);go_simp;with_reducible rfl) (z:=?_)
 iterate 4
  refine ord_p ?_
 refine ord_r (y:=by intro w' hg;have q:=hg.cell c9 (fun h=>h);go_simp;with_reducible rfl) (z:=?_)
 refine ord_p ?_
 refine zl rfl rfl rfl rfl ?_ ?_ ?_ ?_ ?_ ?_
 rotate_left 3
 ·go_simp;first | with_reducible rfl | (constructor <;> with_reducible rfl)
 ·simp only [Act.put,pB,pC,pD];rfl
 refine zK rfl rfl rfl rfl ?_ ?_ (fun h=>absurd (by simp) h) ?_
 rotate_left
 ·go_simp;with_reducible rfl
 refine zF ?_
 have hga:=((Keep.refl NoB w7).alloc (.cells #[.int .u64 rc.session,.slice A7 F.length c7',.int .u32 (rc.sum:Nat)] 40)).drew
 have HM:=LH (show (w7.alloc (.cells #[.int .u64 rc.session,.slice A7 F.length c7',.int .u32 (rc.sum:Nat)] 40)).drew.heap[w7.heap.size]? = _ from heap_alloc_new w7 (.cells #[.int .u64 rc.session,.slice A7 F.length c7',.int .u32 (rc.sum:Nat)] 40))
 replace H:=LH (H.out.grow hga)
 replace HKG:=LH (HKG.out.grow hga)
 replace HO7:=LH (zE HO7.out hga (fun _ _ h=>h))
 replace HK:=LH (HK.out.grow hga)
 have hN7:w.heap.size≤w7.heap.size:=by have:=HKW7.out.size;exact this
 generalize hw8:(w7.alloc (.cells #[.int .u64 rc.session,.slice A7 F.length c7',.int .u32 (rc.sum:Nat)] 40)).drew=w8 at H HKG HO7 HM HK ⊢
 obtain ⟨N,hN⟩:∃ N,w7.heap.size=N:=⟨_,rfl⟩
 rw [hN] at HM hN7 ⊢
 clear hga hw8 hN c0 c1 c2 c3 c4 c5 c6 c7 c8 c9 c10 c11 c12 c13 c14 c15 c16 c17 c18 c19 c20 cf
 obtain ⟨c0,c1,c2,c3,c4,c5,c6,c7,c8,c9,c10,c11,c12,c13,c14,c15,c16,c17,c18,c19,c20,cf⟩:=zH H.out
 rw [hquo2] at c4
 rw [hst2] at c5
 obtain ⟨m0,m1,m2,mf⟩:=zI HM.out
 have hFP:=zN HF.out.fit
 have hF0:0≤F.sum:=zeA hFP.2.2.1
 have hw9:IntKind.i64.wrap (F.sum*8)=F.sum*8:=IntWalk.i64_in _ (by omega)
 have hgt:¬ (rc.quota<F.sum*8):=by omega
 have HMW:=LH (zPA rc.session rc.sum A7 c7' F w8.drew (SliceR.of_own (zE HO7.out (Keep.refl NoB w8).drew (fun _ _ h=>h))) HF.out.fit)
 clear hFP
 go_wp2
 refine zD [0,3,4,5,6,7,1,2,8] [1] [0,7] [] rfl (by kernel_rfl) ?_
 refine ord_r (y:=by intro w' hg;have q0:=hg.cell m0 (fun h=>h);have q1:=hg.cell m1 (fun h=>h);have q2:=hg.cell m2 (fun h=>h);go_simp;with_reducible rfl) (z:=?_)
 iterate 4
  refine ord_p ?_
 refine ord_r (y:=by intro w' hg;have q:=hg.cell c4 (fun h=>h);go_simp;with_reducible rfl) (z:=?_)
 refine zG rfl rfl rfl rfl rfl Tryz.func102 rfl rfl [.agg #[.int .u64 rc.session,.slice A7 F.length c7',.int .u32 (rc.sum:Nat)]] rfl ?_
 refine HMW.out.mono ?_
 rintro e w9' ⟨rfl,hg9⟩
 refine ⟨_,rfl,fun _=>hg9,?_⟩
 simp only [Act.put,pB,pC,pD]
 iterate 2
  refine ord_p ?_
 refine zF ?_
 have hgr9:=(Keep.refl NoB w8).drew.grow hg9
 replace H:=LH (H.out.grow hgr9)
 replace HKG:=LH (HKG.out.grow hgr9)
 replace HO7:=LH (zE HO7.out hgr9 (fun _ _ h=>h))
 replace HM:=LH (Grow.heap hgr9 HM.out)
 replace HK:=LH (HK.out.grow hgr9)
 clear HMW hg9 hgr9 m0 m1 m2 mf c0 c1 c2 c3 c4 c5 c6 c7 c8 c9 c10 c11 c12 c13 c14 c15 c16 c17 c18 c19 c20 cf
 obtain ⟨c0,c1,c2,c3,c4,c5,c6,c7,c8,c9,c10,c11,c12,c13,c14,c15,c16,c17,c18,c19,c20,cf⟩:=zH H.out
 rw [hst2] at c5
 go_wp2_with fail
 refine (zAD HK.out hkn).mono ?_
 rintro e w10 ⟨⟨v,rfl⟩,A8,c8',m,hK,hk,hml,hlo⟩
 have hsz9:=HKG.out.size
 have hg0:g<w.heap.size:=HLT.out
 have hS1:∀ j,(j=rc.st∨(Value.slice k.lo.A k.lo.n k.lo.c).ownBlock=some j)→KF rc.st k j:=fun j hj=>hj.elim .inl (fun h=>.inr (.inr h))
 replace H:=LH (H.out.keep hk (fun e=>HGK.out.1 (hS1 _ e)))
 have hsz6:=HO7s.out
 have hdw6:w6.drew.heap.size=w6.heap.size:=rfl
 replace HO7:=LH (zE HO7.out hk (fun j hj e=>by have:=HKS.out j (hS1 _ e);have:=(HO7.out.lt j hj).1;omega))
 replace HM:=LH ((hk.block _ (gE HM.out).1 (fun e=>by have:=HKS.out _ (hS1 _ e);omega)).trans HM.out)
 replace HKG:=LH ((HKG.out.mono (T:=fun j=>j=g∨KF rc.st k j) (fun _ h=>.inl h)).trans hk (fun j hj=>.inl (.inr (hS1 j hj))))
 have hKFn:∀ j,KF rc.st ((k.clear m).step A8 c8') j→KF rc.st k j∨w.heap.size≤j:=fun j hj=>by
  rcases hj with e | e | e
  ·exact .inl (.inl e)
  ·right;rw [e];show w.heap.size≤m;omega
  ·exact (hlo j e).imp (fun h=>.inr (.inr h)) (fun h=>by omega)
 have HKF:=LH hKFn
 have HNW:=LH hK
 have hszT:w.heap.size≤w10.heap.size:=HKG.out.size
 clear hS1 hk hml hlo hKFn hK HK c0 c1 c2 c3 c4 c5 c6 c7 c8 c9 c10 c11 c12 c13 c14 c15 c16 c17 c18 c19 c20 cf
 obtain ⟨c0,c1,c2,c3,c4,c5,c6,c7,c8,c9,c10,c11,c12,c13,c14,c15,c16,c17,c18,c19,c20,cf⟩:=zH H.out
 obtain ⟨m0,m1,m2,mf⟩:=zI HM.out
 have hFn:Hid (F.sum=(F.sum.toNat:Int)):=LH (by omega)
 go_wp2_with fail
 refine (zBD H.out rc.session rc.sum HSS.out.1 HSS.out.2 A7 c7' F HF.out.fit F.sum.toNat hFn.out (SliceR.of_own HO7.out)).mono ?_
 rintro e w11 ⟨⟨v2,rfl⟩,b,p,Gp,hR,hkB,hP,hb,hpw,hGp⟩
 have hKn:=HNW.out.keep hkB (fun j hj e=>by rcases HKF.out j hj with h | h;exact HGK.out.1 (by rw [← e];exact h);omega) (fun j hj=>hj.elim)
 have HP:=LH (And.intro hR (And.intro hst2 (And.intro hquo2 (And.intro (show rc2.resumed=rc.resumed by rw [HRST.out];try rfl) (And.intro (show rc2.err=rc.err by rw [HRST.out];try rfl) (And.intro hP (And.intro hKn (And.intro (HKG.out.trans hkB (fun j hj=>.inl (.inl hj))) (And.intro (Nat.le_trans hszT hb) (And.intro (Nat.le_trans hszT hpw) (And.intro (fun j hj=>Nat.le_trans hszT (hGp j hj):∀ j,Gp j→w.heap.size≤j) (show ∀ j,KF rc.st ((k.clear m).step A8 c8') j→(KF rc.st k j∨w.heap.size≤j)∧j≠b∧j≠p.wb∧¬ Gp j from fun j hj=>⟨HKF.out j hj,by have:=HNW.out.small j hj;omega,by have:=HNW.out.small j hj;omega,fun e=>by have:=HNW.out.small j hj;have:=hGp j e;omega⟩))))))))))))
 clear hR hkB hP hb hpw hGp hKn m0 m1 m2 mf c0 c1 c2 c3 c4 c5 c6 c7 c8 c9 c10 c11 c12 c13 c14 c15 c16 c17 c18 c19 c20 cf
 go_wp2
 go_ret
 exact ⟨rfl,rc2,b,p,Gp,A8,c8',m,HP.out⟩
theorem znG {g:Nat} {rc:RC} {w:World} (h:RCell g rc w) (session:Int) (sum:Nat) (ps:List (List Int)) (h4:ps.length≤4) (hph:rc.phase=0) (hpt:rc.part=none) (i:Nat) (hi:i<ps.length)   (A1:Option Addr) (c1':Nat) (hs:SliceR 1 (.slice A1 (ps[i]'hi).length c1') (ps[i]'hi).length (ints (ps[i]'hi)) w) (hsl:(ps[i]'hi).length≤4) (hsg:∀ w',Keep (fun k=>k=g) w w'→SliceR 1 (.slice A1 (ps[i]'hi).length c1') (ps[i]'hi).length (ints (ps[i]'hi)) w') (F:List Int) (hF:PagesOk ps F) (hb:((List.range ps.length).map ((rc.hearing ps.length session sum).setH i).h).contains false=false) (hq:8*F.sum≤rc.quota) (h01:0≤session∧session≤18446744073709551615) (hsm:sum<4294967296) {k:KS} {Gk:Nat→Prop} (hK:KAt rc.st k Gk w) (hgGk:¬ Gk g) (hkn:k.lo.n≤4096) (hgk:¬ KF rc.st k g)  :
    Calls Tryz.prog 109 #[.pointer (some ⟨g,0,none⟩),.agg #[.int .i64 1,.int .u64 session,.int .i64 i,.int .i64 ps.length,.int .u32 (sum:Nat),.slice A1 (ps[i]'hi).length c1',.slice none 0 0]] w fun e w'=>e=.returned (.slice none 0 0)∧∃ (rc':RC) (b:Nat) (p:PP) (Gp:Nat→Prop) (A:Option Addr) (c m:Nat),RCell g (rc'.begin ⟨b,0,none⟩ session sum) w'∧rc'.st=rc.st∧rc'.quota=rc.quota∧rc'.resumed=rc.resumed∧rc'.err=rc.err∧PAt b p ⟨session,F,sum,List.replicate F.sum.toNat 0,makeB (chunksN F)⟩ Gp w'∧KAt rc.st ((k.clear m).step A c) NoB w'∧Keep (fun j=>j=g∨KF rc.st k j) w w'∧w.heap.size≤b∧w.heap.size≤p.wb∧(∀ j,Gp j→w.heap.size≤j)∧∀ j,KF rc.st ((k.clear m).step A c) j→(KF rc.st k j∨w.heap.size≤j)∧j≠b∧j≠p.wb∧¬ Gp j:=by
 have hg0:=(Keep.refl NoB w).alloc (.cells #[.int .i64 1,.int .u64 session,.int .i64 i,.int .i64 ps.length,.int .u32 (sum:Nat),.slice A1 (ps[i]'hi).length c1',.slice none 0 0] 46)
 have HZ:=LH (heap_alloc_new w (.cells #[.int .i64 1,.int .u64 session,.int .i64 i,.int .i64 ps.length,.int .u32 (sum:Nat),.slice A1 (ps[i]'hi).length c1',.slice none 0 0] 46))
 have HS:=LH (hs.grow hg0)
 have H:=LH (h.grow hg0)
 have HLT:Hid (g<w.heap.size):=LH h.lt
 have HG:=LH hg0
 have HB:=LH hb
 have HSN:Hid (∀ w',Keep (fun k=>k=g) (w.alloc (.cells #[.int .i64 1,.int .u64 session,.int .i64 i,.int .i64 ps.length,.int .u32 (sum:Nat),.slice A1 (ps[i]'hi).length c1',.slice none 0 0] 46)) w'→SliceR 1 (.slice A1 (ps[i]'hi).length c1') (ps[i]'hi).length (ints (ps[i]'hi)) w'):=LH (fun w' hk=>hsg w' ((hg0.mono (T:=fun k=>k=g) (fun _ h=>h.elim)).trans hk (fun _ h=>.inl h)))
 clear hsg
 have HF:=LH hF
 clear hF
 have HK:=LH (hK.grow hg0)
 have HGK:=LH (And.intro hgk hgGk)
 have HKS:=LH hK.small
 clear hK hgk hgGk
 have HSS:=LH (And.intro h01 hsm)
 clear h01 hsm
 have hwi:(i:Int)<4:=by omega
 have hi1:¬ ((ps.length:Int)≤i):=by omega
 clear h hg0 hs hb
 go_enter Tryz.func109,Tryz.ntmps109
 obtain ⟨z0,z1,z2,z3,z4,z5,z6,zf⟩:=zC HZ.out
 obtain ⟨c0,c1,c2,c3,c4,c5,c6,c7,c8,c9,c10,c11,c12,c13,c14,c15,c16,c17,c18,c19,c20,cf⟩:=zH H.out
 rw [hpt] at c0
 rw [hph] at c6
 go_wp2
 have HGN:Hid (¬ w.heap.size=g):=LH (fun e=>by have:=HLT.out;omega)
 generalize w.alloc (.cells #[.int .i64 1,.int .u64 session,.int .i64 i,.int .i64 ps.length,.int .u32 (sum:Nat),.slice A1 (ps[i]'hi).length c1',.slice none 0 0] 46)=w1 at H HG HZ HS HSN HK ⊢
 clear c0 c1 c2 c3 c4 c5 c6 c7 c8 c9 c10 c11 c12 c13 c14 c15 c16 c17 c18 c19 c20 cf z0 z1 z2 z3 z4 z5 z6 zf
 obtain ⟨z0,z1,z2,z3,z4,z5,z6,zf⟩:=zC HZ.out
 obtain ⟨c0,c1,c2,c3,c4,c5,c6,c7,c8,c9,c10,c11,c12,c13,c14,c15,c16,c17,c18,c19,c20,cf⟩:=zH H.out
 refine zc (fun k=>k=g) [0,1,2,3,4,5,6,7,8,9,10,11,12,13,14,15,16,17,18,19,20,21,22] [13,16,19,22] [5,7,9] [] rfl (by kernel_rfl) ?_
 iterate 5
  refine ord_p ?_
 refine ord_r (y:=by intro w' hg;have q:=hg.cell z1 HGN.out;go_simp;with_reducible rfl) (z:=?_)
 refine ord_p ?_
 refine ord_r (y:=by intro w' hg;have q:=hg.cell z4 HGN.out;go_simp;with_reducible rfl) (z:=?_)
 refine ord_p ?_
 refine ord_r (y:=by intro w' hg;have q:=hg.cell z3 HGN.out;go_simp;with_reducible rfl) (z:=?_)
 iterate 3
  refine ord_p ?_
 refine zK rfl rfl rfl rfl ?_ ?_ ?_ ?_
 rotate_left
 ·go_simp;with_reducible rfl
 ·exact fun _=>zV _ _ _ _
 iterate 2
  refine ord_p ?_
 refine zK rfl rfl rfl rfl ?_ ?_ ?_ ?_
 rotate_left
 ·go_simp;with_reducible rfl
 ·exact fun _=>zV _ _ _ _
 iterate 2
  refine ord_p ?_
 refine zK rfl rfl rfl rfl ?_ ?_ ?_ ?_
 rotate_left
 ·go_simp;with_reducible rfl
 ·exact fun _=>zV _ _ _ _
 iterate 2
  refine ord_p ?_
 have hp1:=H.out.put (d':={ rc with phase:=1 }) 6 (.int .i64 1) rfl
 have hp2:=hp1.1.put (d':={ rc with phase:=1,session:=session }) 8 (.int .u64 session) rfl
 have hp3:=hp2.1.put (d':={ rc with phase:=1,session:=session,sum:=sum }) 9 (.int .u32 (sum:Nat)) rfl
 have hp4:=(show RCell g { rc with phase:=1,session:=session,sum:=sum } (((w1.setCell ⟨g,6,none⟩ (.int .i64 1)).setCell ⟨g,8,none⟩ (.int .u64 session)).setCell ⟨g,9,none⟩ (.int .u32 (sum:Nat))).drew from hp3.1)
 refine zhD rfl rfl rfl rfl _ _ _ rfl g 10 #[.int .i64 ps.length,.bool false,.bool false,.bool false,.bool false,.slice none 0 0,.slice none 0 0,.slice none 0 0,.slice none 0 0] rfl rfl _ _ (rc.hearing ps.length session sum).cs hp4 zTC (by simp [RC.cs]) rfl (by simp [Value.oneCell']) (fun _=>(Keep.refl (fun k=>k=g) _).setRow (.inl rfl) _) ?_
 have hr4:=setRow_heap _ g _ (rc.hearing ps.length session sum).cs _ _ hp4
 have hk4:=((((Keep.refl (fun k=>k=g) w1).trans hp1.2 (fun _ h=>.inl h)).trans hp2.2 (fun _ h=>.inl h)).trans hp3.2 (fun _ h=>.inl h)).drew.setRow (.inl rfl) (rc.hearing ps.length session sum).cs
 refine zF ?_
 replace HZ:=LH ((hk4.block _ (gE HZ.out).1 HGN.out).trans HZ.out)
 have hgs:Hid (∀ k,(Value.slice A1 (ps[i]'hi).length c1').ownBlock=some k→True):=LH (fun _ _=>trivial)
 replace HS:=LH (HSN.out _ hk4)
 replace HK:=LH (HK.out.keep hk4 (fun j hj e=>HGK.out.1 (by rw [← e];exact hj)) (fun j hj e=>HGK.out.2 (by rw [← e];exact hj)))
 replace HG:=LH ((HG.out.mono (T:=fun k=>k=g) (fun _ h=>h.elim)).trans hk4 (fun _ h=>.inl h))
 have HR4:=LH hr4
 clear hp1 hp2 hp3 hp4 hr4 hk4 hgs HSN H c0 c1 c2 c3 c4 c5 c6 c7 c8 c9 c10 c11 c12 c13 c14 c15 c16 c17 c18 c19 c20 cf z0 z1 z2 z3 z4 z5 z6 zf
 generalize World.setRow (((w1.setCell ⟨g,6,none⟩ (.int .i64 1)).setCell ⟨g,8,none⟩ (.int .u64 session)).setCell ⟨g,9,none⟩ (.int .u32 (sum:Nat))).drew g (rc.hearing ps.length session sum).cs=w9 at HR4 HG HZ HS HK ⊢
 have H:Hid (RCell g (rc.hearing ps.length session sum) w9):=LH HR4.out
 clear HR4
 obtain ⟨z0,z1,z2,z3,z4,z5,z6,zf⟩:=zC HZ.out
 obtain ⟨c0,c1,c2,c3,c4,c5,c6,c7,c8,c9,c10,c11,c12,c13,c14,c15,c16,c17,c18,c19,c20,cf⟩:=zH H.out
 rw [show (rc.hearing ps.length session sum).of=(ps.length:Int) from rfl] at c10
 have ch:=H.out.h_cell i (by omega)
 rw [show (rc.hearing ps.length session sum).h i=false from by unfold RC.h RC.hearing;split <;> rfl] at ch
 go_wp2
 refine zD [0,1,2,3,4,5,6,7,8,9,10,11,12,13,14,15] [] [1,5,10,14] [] rfl (by kernel_rfl) ?_
 refine ord_p ?_
 refine ord_r (y:=by intro w' hg;have q:=hg.cell z3 (fun h=>h);go_simp;with_reducible rfl) (z:=?_)
 iterate 3
  refine ord_p ?_
 refine ord_r (y:=by intro w' hg;have q:=hg.cell c10 (fun h=>h);go_simp;with_reducible rfl) (z:=?_)
 iterate 2
  refine ord_p ?_
 iterate 2
  refine zS ?_
 refine zY (y:=by intro w' hg;have q:=hg.cell z2 (fun h=>h);go_simp;with_reducible rfl) (z:=?_)
 iterate 3
  refine zS ?_
 refine zY (y:=by intro w' hg;have q:=hg.cell ch (fun h=>h);go_simp;with_reducible rfl) (z:=?_)
 refine ord_p ?_
 refine zF ?_
 clear z0 z1 z2 z3 z4 z5 z6 zf c0 c1 c2 c3 c4 c5 c6 c7 c8 c9 c10 c11 c12 c13 c14 c15 c16 c17 c18 c19 c20 cf ch
 replace H:=LH ((show RCell g (rc.hearing ps.length session sum) w9.drew from H.out))
 replace HG:=LH (HG.out.drew)
 replace HZ:=LH ((show w9.drew.heap[_]? = _ from HZ.out))
 replace HS:=LH (HS.out.grow (Keep.refl NoB w9).drew)
 replace HK:=LH (HK.out.grow (Keep.refl NoB w9).drew)
 generalize w9.drew=w2 at H HG HZ HS HK ⊢
 obtain ⟨z0,z1,z2,z3,z4,z5,z6,zf⟩:=zC HZ.out
 go_wp2
 refine zc (fun k=>k=g) [0,1,2,3,4,5,6,7,9,10,13,14,8,11,12,15,16] [8,12,16] [2,5,7] [] rfl (by kernel_rfl) ?_
 iterate 2
  refine ord_p ?_
 refine ord_r (y:=by intro w' hg;have q:=hg.cell z2 HGN.out;go_simp;with_reducible rfl) (z:=?_)
 iterate 2
  refine ord_p ?_
 refine ord_r (y:=by intro w' hg;have q:=hg.cell z2 HGN.out;go_simp;with_reducible rfl) (z:=?_)
 refine ord_p ?_
 refine ord_r (y:=by intro w' hg;have q:=hg.cell z5 HGN.out;go_simp;with_reducible rfl) (z:=?_)
 iterate 4
  refine ord_p ?_
 refine zG rfl rfl rfl rfl rfl Tryz.func178 rfl rfl [.slice A1 (ps[i]'hi).length c1'] rfl ?_
 refine (zDA _ (ps[i]'hi) w2.drew (HS.out.grow (Keep.refl NoB w2).drew) (by omega)).mono ?_
 rintro e w3 ⟨A5,c5,rfl,ho5,hg5⟩
 refine ⟨_,rfl,fun _=>hg5.mono (fun _ h=>h.elim),?_⟩
 simp only [Act.put,pB,pC,pD]
 have h3:RCell g (rc.hearing ps.length session sum) w3:=H.out.grow ((Keep.refl NoB w2).drew.grow hg5)
 have ch:=h3.h_cell i (by omega)
 have cf:∀ o,w3.frozen? ⟨g,o,none⟩=false:=fun o=>zM o h3
 refine ord_p ?_
 refine zK rfl rfl rfl rfl ?_ ?_ ?_ ?_
 rotate_left
 ·go_simp;with_reducible rfl
 ·exact fun _=>zV _ _ _ _
 have h4':=h3.put (d':=(rc.hearing ps.length session sum).setH i) (11+i) (.bool true) (RC.setH_cs _ i (by omega))
 have cz:=h4'.1.z_cell i (by omega)
 have cf2:∀ o,(w3.setCell ⟨g,11+i,none⟩ (.bool true)).frozen? ⟨g,o,none⟩=false:=fun o=>zM o h4'.1
 refine ord_p ?_
 refine zK rfl rfl rfl rfl ?_ ?_ ?_ ?_
 rotate_left
 ·go_simp;with_reducible rfl
 ·exact fun _=>zV _ _ _ _
 have h5':=h4'.1.put (d':=((rc.hearing ps.length session sum).setH i).setZ i ⟨A5,(ps[i]'hi).length,c5⟩) (15+i) (.slice A5 (ps[i]'hi).length c5) (RC.setZ_cs _ i (by omega) ⟨A5,(ps[i]'hi).length,c5⟩)
 refine zF ?_
 have hkg:=h4'.2.trans h5'.2 (fun _ h=>.inl h)
 have hgr3:=(Keep.refl NoB w2).drew.grow hg5
 have hw2:=HG.out.size
 have hdw:w2.drew.heap.size=w2.heap.size:=rfl
 have hng:∀ k,(Value.slice A5 (ps[i]'hi).length c5).ownBlock=some k→¬ k=g:=fun k hk e=>by have:=(ho5.lt k hk).1;have:=HLT.out;omega
 have HO5:=LH (zE ho5 hkg hng)
 have HO5s:Hid (∀ k,(Value.slice A5 (ps[i]'hi).length c5).ownBlock=some k→w.heap.size≤k):=LH (fun k hk=>by have:=(ho5.lt k hk).1;omega)
 have HHE:=LH (Hear.none (rc:=(rc.hearing ps.length session sum)) (ps:=ps) (fun j=>by unfold RC.h RC.hearing;split <;> rfl) ((w3.setCell ⟨g,11+i,none⟩ (.bool true)).setCell ⟨g,15+i,none⟩ (.slice A5 (ps[i]'hi).length c5)))
 replace HHE:=LH (HHE.out.more i hi h4 HO5.out)
 have HKG:=LH ((HG.out.grow hgr3).trans hkg (fun _ h=>.inl h))
 replace HK:=LH ((HK.out.grow hgr3).keep hkg (fun j hj e=>HGK.out.1 (by rw [← e];exact hj)) (fun j hj e=>HGK.out.2 (by rw [← e];exact hj)))
 have HNZ:=LH (And.intro h5'.1 hkg)
 clear ho5 hg5 h3 ch cf h4' cz cf2 h5' hkg hgr3 hw2 hdw hng z0 z1 z2 z3 z4 z5 z6 zf HO5
 obtain ⟨w5,hw5⟩:∃ w5,((w3.setCell ⟨g,11+i,none⟩ (.bool true)).setCell ⟨g,15+i,none⟩ (.slice A5 (ps[i]'hi).length c5))=w5:=⟨_,rfl⟩
 rw [hw5] at HHE HKG HNZ HK ⊢
 replace H:=LH HNZ.out.1
 have HBS:Hid (((List.range ps.length).map (((rc.hearing ps.length session sum).setH i).setZ i ⟨A5,(ps[i]'hi).length,c5⟩).h).contains false=false):=LH (by rw [RC.setZ_h];exact HB.out)
 have hrest:=RC.set_rest (rc.hearing ps.length session sum) i (by omega) ⟨A5,(ps[i]'hi).length,c5⟩
 obtain ⟨rc2,hrc2⟩:∃ r,((rc.hearing ps.length session sum).setH i).setZ i ⟨A5,(ps[i]'hi).length,c5⟩=r:=⟨_,rfl⟩
 rw [hrc2] at H HHE HBS hrest
 have HRST:=LH hrest
 have hof2:rc2.of=ps.length:=by rw [hrest];rfl
 clear HNZ hw5 hrc2 hrest HB HZ HS HG
 obtain ⟨c0,c1,c2,c3,c4,c5,c6,c7,c8,c9,c10,c11,c12,c13,c14,c15,c16,c17,c18,c19,c20,cf⟩:=zH H.out
 rw [hof2] at c10
 go_wp2
 have hC:=zEA _ _ HBS.out (some ⟨g,11,none⟩) 4 w5.drew (by have:=(show RCell g rc2 w5.drew from H.out).heardR ps.length h4;rw [List.length_map,List.length_range];exact this) (by rw [List.length_map,List.length_range];omega)
 rw [List.length_map,List.length_range] at hC
 have HC:=LH hC
 clear hC
 have hpl:(ps.length:Int)≤4:=by omega
 refine zD [0,1,2,3,4,5,6,7,8] [8] [6] [] rfl (by kernel_rfl) ?_
 iterate 6
  refine ord_p ?_
 refine ord_r (y:=by intro w' hg;have q:=hg.cell c10 (fun h=>h);go_simp;with_reducible rfl) (z:=?_)
 refine ord_p ?_
 refine zG rfl rfl rfl rfl rfl Tryz.func179 rfl rfl [.slice (some ⟨g,11,none⟩) ps.length 4,.bool false] rfl ?_
 refine HC.out.mono ?_
 rintro e w6 ⟨rfl,rfl⟩
 refine ⟨_,rfl,fun _=>Keep.refl _ _,?_⟩
 simp only [Act.put,pB,pC,pD]
 refine zF ?_
 clear HC c0 c1 c2 c3 c4 c5 c6 c7 c8 c9 c10 c11 c12 c13 c14 c15 c16 c17 c18 c19 c20 cf
 replace H:=LH ((show RCell g rc2 w5.drew from H.out))
 replace HHE:=LH (HHE.out.keep (Keep.refl NoB w5).drew (fun _ _ h=>h))
 replace HKG:=LH (HKG.out.drew)
 replace HK:=LH (HK.out.grow (Keep.refl NoB w5).drew)
 generalize w5.drew=w6 at H HHE HKG HK ⊢
 obtain ⟨c0,c1,c2,c3,c4,c5,c6,c7,c8,c9,c10,c11,c12,c13,c14,c15,c16,c17,c18,c19,c20,cf⟩:=zH H.out
 rw [hof2] at c10
 go_wp2
 have HKW:=LH HKG.out
 have HJ:=LH (zYB ps F HF.out (some ⟨g,15,none⟩) 4 w6.drew ((show RCell g rc2 w6.drew from H.out).pagesR (HHE.out.keep (Keep.refl NoB w6).drew (fun _ _ h=>h)) h4 HBS.out))
 refine zD [0,1,2,3,4,5,6,7,8,9,10,11,12,13] [8,12,13] [6] [] rfl (by kernel_rfl) ?_
 iterate 6
  refine ord_p ?_
 refine ord_r (y:=by intro w' hg;have q:=hg.cell c10 (fun h=>h);go_simp;with_reducible rfl) (z:=?_)
 refine ord_p ?_
 refine zG rfl rfl rfl rfl rfl Tryz.func180 rfl rfl [.slice (some ⟨g,15,none⟩) ps.length 4] rfl ?_
 refine HJ.out.mono ?_
 rintro e w7 ⟨A7,c7',rfl,hg7,ho7⟩
 refine ⟨_,rfl,fun _=>hg7,?_⟩
 simp only [Act.put,pB,pC,pD]
 iterate 3
  refine ord_p ?_
 iterate 2
  refine ord_s ?_
 refine zF ?_
 have hgr7:=(Keep.refl NoB w6).drew.grow hg7
 replace H:=LH (H.out.grow hgr7)
 replace HKG:=LH (HKG.out.grow hgr7)
 replace HK:=LH (HK.out.grow hgr7)
 have HO7:=LH ho7
 have HKW7:=LH HKG.out
 have HO7s:Hid (w.heap.size≤w6.heap.size):=LH HKW.out.size
 clear HJ hg7 ho7 hgr7 HHE c0 c1 c2 c3 c4 c5 c6 c7 c8 c9 c10 c11 c12 c13 c14 c15 c16 c17 c18 c19 c20 cf
 obtain ⟨c0,c1,c2,c3,c4,c5,c6,c7,c8,c9,c10,c11,c12,c13,c14,c15,c16,c17,c18,c19,c20,cf⟩:=zH H.out
 go_wp2
 have hses2:rc2.session=session:=by rw [HRST.out];try rfl
 have hsum2:rc2.sum=sum:=by rw [HRST.out];try rfl
 have hquo2:rc2.quota=rc.quota:=by rw [HRST.out];try rfl
 have hst2:rc2.st=rc.st:=by rw [HRST.out];try rfl
 rw [hses2] at c8
 rw [hsum2] at c9
 rw [hquo2] at c4
 rw [hst2] at c5
 refine zD [0,1,2,3,4,5,6,7,8,9,10,11] [10,11] [3,8] [11] rfl (by kernel_rfl) ?_
 iterate 3
  refine ord_p ?_
 refine ord_r (y:=by intro w' hg;have q:=hg.cell c8 (fun h=>h);go_simp;with_reducible rfl) (z:=?_)
 iterate 4
  refine ord_p ?_
 refine ord_r (y:=by intro w' hg;have q:=hg.cell c9 (fun h=>h);go_simp;with_reducible rfl) (z:=?_)
 refine ord_p ?_
 refine zl rfl rfl rfl rfl ?_ ?_ ?_ ?_ ?_ ?_
 rotate_left 3
 ·go_simp;first | with_reducible rfl | (constructor <;> with_reducible rfl)
 ·simp only [Act.put,pB,pC,pD];rfl
 refine zK rfl rfl rfl rfl ?_ ?_ (fun h=>absurd (by simp) h) ?_
 rotate_left
 ·go_simp;with_reducible rfl
 refine zF ?_
 have hga:=((Keep.refl NoB w7).alloc (.cells #[.int .u64 session,.slice A7 F.length c7',.int .u32 (sum:Nat)] 40)).drew
 have HM:=LH (show (w7.alloc (.cells #[.int .u64 session,.slice A7 F.length c7',.int .u32 (sum:Nat)] 40)).drew.heap[w7.heap.size]? = _ from heap_alloc_new w7 (.cells #[.int .u64 session,.slice A7 F.length c7',.int .u32 (sum:Nat)] 40))
 replace H:=LH (H.out.grow hga)
 replace HKG:=LH (HKG.out.grow hga)
 replace HO7:=LH (zE HO7.out hga (fun _ _ h=>h))
 replace HK:=LH (HK.out.grow hga)
 have hN7:w.heap.size≤w7.heap.size:=by have:=HKW7.out.size;exact this
 generalize hw8:(w7.alloc (.cells #[.int .u64 session,.slice A7 F.length c7',.int .u32 (sum:Nat)] 40)).drew=w8 at H HKG HO7 HM HK ⊢
 obtain ⟨N,hN⟩:∃ N,w7.heap.size=N:=⟨_,rfl⟩
 rw [hN] at HM hN7 ⊢
 clear hga hw8 hN c0 c1 c2 c3 c4 c5 c6 c7 c8 c9 c10 c11 c12 c13 c14 c15 c16 c17 c18 c19 c20 cf
 obtain ⟨c0,c1,c2,c3,c4,c5,c6,c7,c8,c9,c10,c11,c12,c13,c14,c15,c16,c17,c18,c19,c20,cf⟩:=zH H.out
 rw [hquo2] at c4
 rw [hst2] at c5
 obtain ⟨m0,m1,m2,mf⟩:=zI HM.out
 have hFP:=zN HF.out.fit
 have hF0:0≤F.sum:=zeA hFP.2.2.1
 have hw9:IntKind.i64.wrap (F.sum*8)=F.sum*8:=IntWalk.i64_in _ (by omega)
 have hgt:¬ (rc.quota<F.sum*8):=by omega
 have HMW:=LH (zPA session sum A7 c7' F w8.drew (SliceR.of_own (zE HO7.out (Keep.refl NoB w8).drew (fun _ _ h=>h))) HF.out.fit)
 clear hFP
 go_wp2
 refine zD [0,3,4,5,6,7,1,2,8] [1] [0,7] [] rfl (by kernel_rfl) ?_
 refine ord_r (y:=by intro w' hg;have q0:=hg.cell m0 (fun h=>h);have q1:=hg.cell m1 (fun h=>h);have q2:=hg.cell m2 (fun h=>h);go_simp;with_reducible rfl) (z:=?_)
 iterate 4
  refine ord_p ?_
 refine ord_r (y:=by intro w' hg;have q:=hg.cell c4 (fun h=>h);go_simp;with_reducible rfl) (z:=?_)
 refine zG rfl rfl rfl rfl rfl Tryz.func102 rfl rfl [.agg #[.int .u64 session,.slice A7 F.length c7',.int .u32 (sum:Nat)]] rfl ?_
 refine HMW.out.mono ?_
 rintro e w9' ⟨rfl,hg9⟩
 refine ⟨_,rfl,fun _=>hg9,?_⟩
 simp only [Act.put,pB,pC,pD]
 iterate 2
  refine ord_p ?_
 refine zF ?_
 have hgr9:=(Keep.refl NoB w8).drew.grow hg9
 replace H:=LH (H.out.grow hgr9)
 replace HKG:=LH (HKG.out.grow hgr9)
 replace HO7:=LH (zE HO7.out hgr9 (fun _ _ h=>h))
 replace HM:=LH (Grow.heap hgr9 HM.out)
 replace HK:=LH (HK.out.grow hgr9)
 clear HMW hg9 hgr9 m0 m1 m2 mf c0 c1 c2 c3 c4 c5 c6 c7 c8 c9 c10 c11 c12 c13 c14 c15 c16 c17 c18 c19 c20 cf
 obtain ⟨c0,c1,c2,c3,c4,c5,c6,c7,c8,c9,c10,c11,c12,c13,c14,c15,c16,c17,c18,c19,c20,cf⟩:=zH H.out
 rw [hst2] at c5
 go_wp2_with fail
 refine (zAD HK.out hkn).mono ?_
 rintro e w10 ⟨⟨v,rfl⟩,A8,c8',m,hK,hk,hml,hlo⟩
 have hsz9:=HKG.out.size
 have hg0:g<w.heap.size:=HLT.out
 have hS1:∀ j,(j=rc.st∨(Value.slice k.lo.A k.lo.n k.lo.c).ownBlock=some j)→KF rc.st k j:=fun j hj=>hj.elim .inl (fun h=>.inr (.inr h))
 replace H:=LH (H.out.keep hk (fun e=>HGK.out.1 (hS1 _ e)))
 have hsz6:=HO7s.out
 have hdw6:w6.drew.heap.size=w6.heap.size:=rfl
 replace HO7:=LH (zE HO7.out hk (fun j hj e=>by have:=HKS.out j (hS1 _ e);have:=(HO7.out.lt j hj).1;omega))
 replace HM:=LH ((hk.block _ (gE HM.out).1 (fun e=>by have:=HKS.out _ (hS1 _ e);omega)).trans HM.out)
 replace HKG:=LH ((HKG.out.mono (T:=fun j=>j=g∨KF rc.st k j) (fun _ h=>.inl h)).trans hk (fun j hj=>.inl (.inr (hS1 j hj))))
 have hKFn:∀ j,KF rc.st ((k.clear m).step A8 c8') j→KF rc.st k j∨w.heap.size≤j:=fun j hj=>by
  rcases hj with e | e | e
  ·exact .inl (.inl e)
  ·right;rw [e];show w.heap.size≤m;omega
  ·exact (hlo j e).imp (fun h=>.inr (.inr h)) (fun h=>by omega)
 have HKF:=LH hKFn
 have HNW:=LH hK
 have hszT:w.heap.size≤w10.heap.size:=HKG.out.size
 clear hS1 hk hml hlo hKFn hK HK c0 c1 c2 c3 c4 c5 c6 c7 c8 c9 c10 c11 c12 c13 c14 c15 c16 c17 c18 c19 c20 cf
 obtain ⟨c0,c1,c2,c3,c4,c5,c6,c7,c8,c9,c10,c11,c12,c13,c14,c15,c16,c17,c18,c19,c20,cf⟩:=zH H.out
 obtain ⟨m0,m1,m2,mf⟩:=zI HM.out
 have hFn:Hid (F.sum=(F.sum.toNat:Int)):=LH (by omega)
 go_wp2_with fail
 refine (zBD H.out session sum HSS.out.1 HSS.out.2 A7 c7' F HF.out.fit F.sum.toNat hFn.out (SliceR.of_own HO7.out)).mono ?_
 rintro e w11 ⟨⟨v2,rfl⟩,b,p,Gp,hR,hkB,hP,hb,hpw,hGp⟩
 have hKn:=HNW.out.keep hkB (fun j hj e=>by rcases HKF.out j hj with h | h;exact HGK.out.1 (by rw [← e];exact h);omega) (fun j hj=>hj.elim)
 have HP:=LH (And.intro hR (And.intro hst2 (And.intro hquo2 (And.intro (show rc2.resumed=rc.resumed by rw [HRST.out];try rfl) (And.intro (show rc2.err=rc.err by rw [HRST.out];try rfl) (And.intro hP (And.intro hKn (And.intro (HKG.out.trans hkB (fun j hj=>.inl (.inl hj))) (And.intro (Nat.le_trans hszT hb) (And.intro (Nat.le_trans hszT hpw) (And.intro (fun j hj=>Nat.le_trans hszT (hGp j hj):∀ j,Gp j→w.heap.size≤j) (show ∀ j,KF rc.st ((k.clear m).step A8 c8') j→(KF rc.st k j∨w.heap.size≤j)∧j≠b∧j≠p.wb∧¬ Gp j from fun j hj=>⟨HKF.out j hj,by have:=HNW.out.small j hj;omega,by have:=HNW.out.small j hj;omega,fun e=>by have:=HNW.out.small j hj;have:=hGp j e;omega⟩))))))))))))
 clear hR hkB hP hb hpw hGp hKn m0 m1 m2 mf c0 c1 c2 c3 c4 c5 c6 c7 c8 c9 c10 c11 c12 c13 c14 c15 c16 c17 c18 c19 c20 cf
 go_wp2
 go_ret
 exact ⟨rfl,rc2,b,p,Gp,A8,c8',m,HP.out⟩
end Go.Proofs.YtfkcpaahdlkcdaaGreat

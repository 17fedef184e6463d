import Derived.Test.YtfkcpaahdlkcdaaGreatRRecvReads30
set_option linter.unusedSimpArgs false
set_option linter.unusedVariables false
set_option maxRecDepth 100000
set_option maxHeartbeats 16000000
namespace Go.Proofs.YtfkcpaahdlkcdaaGreat
open Go.RowKit
theorem zQF {g:Nat} {rc:RC} {w:World} (h:RCell g rc w) (session:Int) (sum:Nat) (ps:List (List Int)) (h4:ps.length≤4) (hph:rc.phase=1) (hpt:rc.part=none) (hof:rc.of=ps.length) (hses:rc.session=session) (hsum:rc.sum=sum) (i:Nat) (hi:i<ps.length) (hh:rc.h i=false) {G:Nat→Prop} (hH:Hear rc ps G w) (hgG:¬ G g) (A1:Option Addr) (c1':Nat) (hs:SliceR 1 (.slice A1 (ps[i]'hi).length c1') (ps[i]'hi).length (ints (ps[i]'hi)) w) (hsl:(ps[i]'hi).length≤4) (hsg:∀ w',Keep (fun k=>k=g) w w'→SliceR 1 (.slice A1 (ps[i]'hi).length c1') (ps[i]'hi).length (ints (ps[i]'hi)) w') (F:List Int) (hF:PagesOk ps F) (hb:((List.range ps.length).map (rc.setH i).h).contains false=false) (hq:rc.quota<8*F.sum) :
    Calls Tryz.prog 109 #[.pointer (some ⟨g,0,none⟩),.agg #[.int .i64 1,.int .u64 session,.int .i64 i,.int .i64 ps.length,.int .u32 (sum:Nat),.slice A1 (ps[i]'hi).length c1',.slice none 0 0]] w fun e w'=>∃ (b:Nat) (rc':RC),e=.returned (.slice (some ⟨b,0,none⟩) 1 1)∧OneG w' b 5 session 31 0 sum∧w.heap.size≤b∧RCell g (rc'.fail 31) w'∧rc'.st=rc.st∧Keep (fun k=>k=g) w w':=by
 have hg0:=(Keep.refl NoB w).alloc (.cells #[.int .i64 1,.int .u64 session,.int .i64 i,.int .i64 ps.length,.int .u32 (sum:Nat),.slice A1 (ps[i]'hi).length c1',.slice none 0 0] 46)
 have HZ:=LH (heap_alloc_new w (.cells #[.int .i64 1,.int .u64 session,.int .i64 i,.int .i64 ps.length,.int .u32 (sum:Nat),.slice A1 (ps[i]'hi).length c1',.slice none 0 0] 46))
 have HS:=LH (hs.grow hg0)
 have H:=LH (h.grow hg0)
 have HLT:Hid (g<w.heap.size):=LH h.lt
 have HG:=LH hg0
 have HB:=LH hb
 clear hsg
 have HHH:=LH hh
 have HHE:=LH (hH.keep hg0 (fun _ _ h=>h))
 have HGG:=LH hgG
 subst hses
 subst hsum
 clear hH hgG hh
 have HF:=LH hF
 clear hF
 have hwi:(i:Int)<4:=by omega
 have hi1:¬ ((ps.length:Int)≤i):=by omega
 clear h hg0 hs hb
 go_enter Tryz.func109,Tryz.ntmps109
 obtain ⟨z0,z1,z2,z3,z4,z5,z6,zf⟩:=zC HZ.out
 obtain ⟨c0,c1,c2,c3,c4,c5,c6,c7,c8,c9,c10,c11,c12,c13,c14,c15,c16,c17,c18,c19,c20,cf⟩:=zH H.out
 rw [hpt] at c0
 rw [hph] at c6
 go_wp2_with fail
 refine (zEB H.out 1 rc.session i ps.length rc.sum A1 none (ps[i]'hi).length c1' 0 0).mono ?_
 rintro e w1 ⟨rfl,hg⟩
 replace H:=LH (H.out.grow hg)
 replace HG:=LH (HG.out.grow hg)
 replace HZ:=LH (Grow.heap hg HZ.out)
 replace HS:=LH (HS.out.grow hg)
 replace HHE:=LH (HHE.out.keep hg (fun _ _ h=>h))
 have hdd:decide (rc.session=rc.session∧rc.sum=rc.sum)=true:=by simp
 rw [hdd]
 clear hg hdd c0 c1 c2 c3 c4 c5 c6 c7 c8 c9 c10 c11 c12 c13 c14 c15 c16 c17 c18 c19 c20 cf z0 z1 z2 z3 z4 z5 z6 zf
 obtain ⟨z0,z1,z2,z3,z4,z5,z6,zf⟩:=zC HZ.out
 obtain ⟨c0,c1,c2,c3,c4,c5,c6,c7,c8,c9,c10,c11,c12,c13,c14,c15,c16,c17,c18,c19,c20,cf⟩:=zH H.out
 rw [hpt] at c0
 rw [hph] at c6
 rw [hof] at c10
 have ch:=H.out.h_cell i (by omega)
 rw [HHH.out] at ch
 go_wp2
 refine zE [0,1,2,3,4,5,6,7,8,9,10,11,12,13,14,15] [] [1,5,10,14] [] rfl (by kernel_rfl) ?_
 refine ord_p ?_
 refine oc1 z3 ?_
 iterate 3
  refine ord_p ?_
 refine oc1 c10 ?_
 iterate 2
  refine ord_p ?_
 iterate 2
  refine zT ?_
 refine oc1G z2 ?_
 iterate 3
  refine zT ?_
 refine oc1G ch ?_
 refine ord_p ?_
 refine zD ?_
 clear z0 z1 z2 z3 z4 z5 z6 zf c0 c1 c2 c3 c4 c5 c6 c7 c8 c9 c10 c11 c12 c13 c14 c15 c16 c17 c18 c19 c20 cf ch
 replace H:=LH ((show RCell g rc w1.drew from H.out))
 replace HG:=LH (HG.out.drew)
 replace HZ:=LH ((show w1.drew.heap[_]? = _ from HZ.out))
 replace HS:=LH (HS.out.grow (Keep.refl NoB w1).drew)
 replace HHE:=LH (HHE.out.keep (Keep.refl NoB w1).drew (fun _ _ h=>h))
 generalize w1.drew=w2 at H HG HZ HS HHE ⊢
 obtain ⟨z0,z1,z2,z3,z4,z5,z6,zf⟩:=zC HZ.out
 go_wp2
 have HGN:Hid (¬ w.heap.size=g):=LH (fun e=>by have:=HLT.out;omega)
 refine ze (fun k=>k=g) [0,1,2,3,4,5,6,7,9,10,13,14,8,11,12,15,16] [8,12,16] [2,5,7] [] rfl (by kernel_rfl) ?_
 iterate 2
  refine ord_p ?_
 refine oc1 z2 ?_ (s0:=HGN.out)
 iterate 2
  refine ord_p ?_
 refine oc1 z2 ?_ (s0:=HGN.out)
 refine ord_p ?_
 refine oc1 z5 ?_ (s0:=HGN.out)
 iterate 4
  refine ord_p ?_
 refine zG rfl rfl rfl rfl rfl Tryz.func178 rfl rfl [.slice A1 (ps[i]'hi).length c1'] rfl ?_
 refine (zEA _ (ps[i]'hi) w2.drew (HS.out.grow (Keep.refl NoB w2).drew) (by omega)).mono ?_
 rintro e w3 ⟨A5,c5,rfl,ho5,hg5⟩
 refine ⟨_,rfl,fun _=>hg5.mono (fun _ h=>h.elim),?_⟩
 simp only [Act.put,pB,pC,pD]
 have h3:RCell g rc w3:=H.out.grow ((Keep.refl NoB w2).drew.grow hg5)
 have ch:=h3.h_cell i (by omega)
 have cf:∀ o,w3.frozen? ⟨g,o,none⟩=false:=fun o=>zN o h3
 refine ord_p ?_
 refine zJ rfl rfl rfl rfl ?_ ?_ ?_ ?_
 rotate_left
 ·go_simp;with_reducible rfl
 ·exact fun _=>zV _ _ _ _
 have h4':=h3.put (d':=rc.setH i) (11+i) (.bool true) (RC.setH_cs _ i (by omega))
 have cz:=h4'.1.z_cell i (by omega)
 have cf2:∀ o,(w3.setCell ⟨g,11+i,none⟩ (.bool true)).frozen? ⟨g,o,none⟩=false:=fun o=>zN o h4'.1
 refine ord_p ?_
 refine zJ rfl rfl rfl rfl ?_ ?_ ?_ ?_
 rotate_left
 ·go_simp;with_reducible rfl
 ·exact fun _=>zV _ _ _ _
 have h5':=h4'.1.put (d':=(rc.setH i).setZ i ⟨A5,(ps[i]'hi).length,c5⟩) (15+i) (.slice A5 (ps[i]'hi).length c5) (RC.setZ_cs _ i (by omega) ⟨A5,(ps[i]'hi).length,c5⟩)
 refine zD ?_
 have hkg:=h4'.2.trans h5'.2 (fun _ h=>.inl h)
 have hgr3:=(Keep.refl NoB w2).drew.grow hg5
 have hw2:=HG.out.size
 have hdw:w2.drew.heap.size=w2.heap.size:=rfl
 have hng:∀ k,(Value.slice A5 (ps[i]'hi).length c5).ownBlock=some k→¬ k=g:=fun k hk e=>by have:=(ho5.lt k hk).1;have:=HLT.out;omega
 have HO5:=LH (zF ho5 hkg hng)
 have HO5s:Hid (∀ k,(Value.slice A5 (ps[i]'hi).length c5).ownBlock=some k→w.heap.size≤k):=LH (fun k hk=>by have:=(ho5.lt k hk).1;omega)
 replace HHE:=LH ((HHE.out.keep hgr3 (fun _ _ h=>h)).keep hkg (fun k hk e=>HGG.out (by rw [← e];exact hk)))
 replace HHE:=LH (HHE.out.more i hi h4 HO5.out)
 have HKG:=LH (((HG.out.grow hgr3).mono (T:=fun k=>k=g) (fun _ h=>h.elim)).trans hkg (fun _ h=>.inl h))
 have HNZ:=LH (And.intro h5'.1 hkg)
 clear ho5 hg5 h3 ch cf h4' cz cf2 h5' hkg hgr3 hw2 hdw hng z0 z1 z2 z3 z4 z5 z6 zf HO5
 obtain ⟨w5,hw5⟩:∃ w5,((w3.setCell ⟨g,11+i,none⟩ (.bool true)).setCell ⟨g,15+i,none⟩ (.slice A5 (ps[i]'hi).length c5))=w5:=⟨_,rfl⟩
 rw [hw5] at HHE HKG HNZ ⊢
 replace H:=LH HNZ.out.1
 have HBS:Hid (((List.range ps.length).map ((rc.setH i).setZ i ⟨A5,(ps[i]'hi).length,c5⟩).h).contains false=false):=LH (by rw [RC.setZ_h];exact HB.out)
 have hrest:=RC.set_rest rc i (by omega) ⟨A5,(ps[i]'hi).length,c5⟩
 obtain ⟨rc2,hrc2⟩:∃ r,(rc.setH i).setZ i ⟨A5,(ps[i]'hi).length,c5⟩=r:=⟨_,rfl⟩
 rw [hrc2] at H HHE HBS hrest
 have HRST:=LH hrest
 have hof2:rc2.of=ps.length:=by rw [hrest];exact hof
 clear HNZ hw5 hrc2 hrest HB HZ HS HG
 obtain ⟨c0,c1,c2,c3,c4,c5,c6,c7,c8,c9,c10,c11,c12,c13,c14,c15,c16,c17,c18,c19,c20,cf⟩:=zH H.out
 rw [hof2] at c10
 go_wp2
 have hC:=zFA _ _ HBS.out (some ⟨g,11,none⟩) 4 w5.drew (by have:=(show RCell g rc2 w5.drew from H.out).heardR ps.length h4;rw [List.length_map,List.length_range];exact this) (by rw [List.length_map,List.length_range];omega)
 rw [List.length_map,List.length_range] at hC
 have HC:=LH hC
 clear hC
 have hpl:(ps.length:Int)≤4:=by omega
 refine zE [0,1,2,3,4,5,6,7,8] [8] [6] [] rfl (by kernel_rfl) ?_
 iterate 6
  refine ord_p ?_
 refine oc1 c10 ?_
 refine ord_p ?_
 refine zG rfl rfl rfl rfl rfl Tryz.func179 rfl rfl [.slice (some ⟨g,11,none⟩) ps.length 4,.bool false] rfl ?_
 refine HC.out.mono ?_
 rintro e w6 ⟨rfl,rfl⟩
 refine ⟨_,rfl,fun _=>Keep.refl _ _,?_⟩
 simp only [Act.put,pB,pC,pD]
 refine zD ?_
 clear HC c0 c1 c2 c3 c4 c5 c6 c7 c8 c9 c10 c11 c12 c13 c14 c15 c16 c17 c18 c19 c20 cf
 replace H:=LH ((show RCell g rc2 w5.drew from H.out))
 replace HHE:=LH (HHE.out.keep (Keep.refl NoB w5).drew (fun _ _ h=>h))
 replace HKG:=LH (HKG.out.drew)
 generalize w5.drew=w6 at H HHE HKG ⊢
 obtain ⟨c0,c1,c2,c3,c4,c5,c6,c7,c8,c9,c10,c11,c12,c13,c14,c15,c16,c17,c18,c19,c20,cf⟩:=zH H.out
 rw [hof2] at c10
 go_wp2
 have HKW:=LH HKG.out
 have HJ:=LH (zdB ps F HF.out (some ⟨g,15,none⟩) 4 w6.drew ((show RCell g rc2 w6.drew from H.out).pagesR (HHE.out.keep (Keep.refl NoB w6).drew (fun _ _ h=>h)) h4 HBS.out))
 refine zE [0,1,2,3,4,5,6,7,8,9,10,11,12,13] [8,12,13] [6] [] rfl (by kernel_rfl) ?_
 iterate 6
  refine ord_p ?_
 refine oc1 c10 ?_
 refine ord_p ?_
 refine zG rfl rfl rfl rfl rfl Tryz.func180 rfl rfl [.slice (some ⟨g,15,none⟩) ps.length 4] rfl ?_
 refine HJ.out.mono ?_
 rintro e w7 ⟨A7,c7',rfl,hg7,ho7⟩
 refine ⟨_,rfl,fun _=>hg7,?_⟩
 simp only [Act.put,pB,pC,pD]
 iterate 3
  refine ord_p ?_
 iterate 2
  refine ord_s ?_
 refine zD ?_
 have hgr7:=(Keep.refl NoB w6).drew.grow hg7
 replace H:=LH (H.out.grow hgr7)
 replace HKG:=LH (HKG.out.grow hgr7)
 have HO7:=LH ho7
 have HKW7:=LH HKG.out
 have HO7s:Hid (w.heap.size≤w6.heap.size):=LH HKW.out.size
 clear HJ hg7 ho7 hgr7 HHE c0 c1 c2 c3 c4 c5 c6 c7 c8 c9 c10 c11 c12 c13 c14 c15 c16 c17 c18 c19 c20 cf
 obtain ⟨c0,c1,c2,c3,c4,c5,c6,c7,c8,c9,c10,c11,c12,c13,c14,c15,c16,c17,c18,c19,c20,cf⟩:=zH H.out
 go_wp2
 have hses2:rc2.session=rc.session:=by rw [HRST.out];try rfl
 have hsum2:rc2.sum=rc.sum:=by rw [HRST.out];try rfl
 have hquo2:rc2.quota=rc.quota:=by rw [HRST.out];try rfl
 have hst2:rc2.st=rc.st:=by rw [HRST.out];try rfl
 rw [hses2] at c8
 rw [hsum2] at c9
 rw [hquo2] at c4
 rw [hst2] at c5
 refine zE [0,1,2,3,4,5,6,7,8,9,10,11] [10,11] [3,8] [11] rfl (by kernel_rfl) ?_
 iterate 3
  refine ord_p ?_
 refine oc1 c8 ?_
 iterate 4
  refine ord_p ?_
 refine oc1 c9 ?_
 refine ord_p ?_
 refine zh rfl rfl rfl rfl ?_ ?_ ?_ ?_ ?_ ?_
 rotate_left 3
 ·go_simp;first | with_reducible rfl | (constructor <;> with_reducible rfl)
 ·simp only [Act.put,pB,pC,pD];rfl
 refine zJ rfl rfl rfl rfl ?_ ?_ (fun h=>absurd (by simp) h) ?_
 rotate_left
 ·go_simp;with_reducible rfl
 refine zD ?_
 have hga:=((Keep.refl NoB w7).alloc (.cells #[.int .u64 rc.session,.slice A7 F.length c7',.int .u32 (rc.sum:Nat)] 40)).drew
 have HM:=LH (show (w7.alloc (.cells #[.int .u64 rc.session,.slice A7 F.length c7',.int .u32 (rc.sum:Nat)] 40)).drew.heap[w7.heap.size]? = _ from heap_alloc_new w7 (.cells #[.int .u64 rc.session,.slice A7 F.length c7',.int .u32 (rc.sum:Nat)] 40))
 replace H:=LH (H.out.grow hga)
 replace HKG:=LH (HKG.out.grow hga)
 replace HO7:=LH (zF HO7.out hga (fun _ _ h=>h))
 have hN7:w.heap.size≤w7.heap.size:=by have:=HKW7.out.size;exact this
 generalize hw8:(w7.alloc (.cells #[.int .u64 rc.session,.slice A7 F.length c7',.int .u32 (rc.sum:Nat)] 40)).drew=w8 at H HKG HO7 HM ⊢
 obtain ⟨N,hN⟩:∃ N,w7.heap.size=N:=⟨_,rfl⟩
 rw [hN] at HM hN7 ⊢
 clear hga hw8 hN c0 c1 c2 c3 c4 c5 c6 c7 c8 c9 c10 c11 c12 c13 c14 c15 c16 c17 c18 c19 c20 cf
 obtain ⟨c0,c1,c2,c3,c4,c5,c6,c7,c8,c9,c10,c11,c12,c13,c14,c15,c16,c17,c18,c19,c20,cf⟩:=zH H.out
 rw [hquo2] at c4
 rw [hst2] at c5
 obtain ⟨m0,m1,m2,mf⟩:=zI HM.out
 have hFP:=zM HF.out.fit
 have hF0:0≤F.sum:=zbA hFP.2.2.1
 have hw9:IntKind.i64.wrap (F.sum*8)=F.sum*8:=IntWalk.i64_in _ (by omega)
 have hgt:rc.quota<F.sum*8:=by omega
 have HMW:=LH (zTA rc.session rc.sum A7 c7' F w8.drew (SliceR.of_own (zF HO7.out (Keep.refl NoB w8).drew (fun _ _ h=>h))) HF.out.fit)
 clear hFP
 go_wp2
 refine zE [0,3,4,5,6,7,1,2,8] [1] [0,7] [] rfl (by kernel_rfl) ?_
 refine oc3 m0 m1 m2 ?_
 iterate 4
  refine ord_p ?_
 refine oc1 c4 ?_
 refine zG rfl rfl rfl rfl rfl Tryz.func102 rfl rfl [.agg #[.int .u64 rc.session,.slice A7 F.length c7',.int .u32 (rc.sum:Nat)]] rfl ?_
 refine HMW.out.mono ?_
 rintro e w9' ⟨rfl,hg9⟩
 refine ⟨_,rfl,fun _=>hg9,?_⟩
 simp only [Act.put,pB,pC,pD]
 iterate 2
  refine ord_p ?_
 refine zD ?_
 have hgr9:=(Keep.refl NoB w8).drew.grow hg9
 replace H:=LH (H.out.grow hgr9)
 replace HKG:=LH (HKG.out.grow hgr9)
 replace HO7:=LH (zF HO7.out hgr9 (fun _ _ h=>h))
 replace HM:=LH (Grow.heap hgr9 HM.out)
 clear HMW hg9 hgr9 m0 m1 m2 mf c0 c1 c2 c3 c4 c5 c6 c7 c8 c9 c10 c11 c12 c13 c14 c15 c16 c17 c18 c19 c20 cf
 go_wp2_with fail
 refine (zeC H.out 31 (by omega)).mono ?_
 rintro e w10 ⟨b,rfl,hO,hb,hR,hK⟩
 have HP:=LH (show ∃ (bb:Nat) (rc':RC),b=bb∧OneG w10 bb 5 rc.session 31 0 rc.sum∧w.heap.size≤bb∧RCell g (rc'.fail 31) w10∧rc'.st=rc.st∧Keep (fun k=>k=g) w w10 from ⟨b,rc2,rfl,by rw [← hses2,← hsum2];exact hO,Nat.le_trans HKG.out.size hb,hR,hst2,HKG.out.trans hK (fun _ h=>.inl h)⟩)
 clear hO hb hR hK
 go_wp2
 go_ret
 obtain ⟨bb,rc',rfl,h1,h2,h3,h4,h5⟩:=HP.out
 exact ⟨b,rc',rfl,h1,h2,h3,h4,h5⟩
theorem zRF {g:Nat} {rc:RC} {w:World} (h:RCell g rc w) (session:Int) (sum:Nat) (ps:List (List Int)) (h4:ps.length≤4) (hph:rc.phase=0) (hpt:rc.part=none) (i:Nat) (hi:i<ps.length)   (A1:Option Addr) (c1':Nat) (hs:SliceR 1 (.slice A1 (ps[i]'hi).length c1') (ps[i]'hi).length (ints (ps[i]'hi)) w) (hsl:(ps[i]'hi).length≤4) (hsg:∀ w',Keep (fun k=>k=g) w w'→SliceR 1 (.slice A1 (ps[i]'hi).length c1') (ps[i]'hi).length (ints (ps[i]'hi)) w') (F:List Int) (hF:PagesOk ps F) (hb:((List.range ps.length).map ((rc.hearing ps.length session sum).setH i).h).contains false=false) (hq:rc.quota<8*F.sum) :
    Calls Tryz.prog 109 #[.pointer (some ⟨g,0,none⟩),.agg #[.int .i64 1,.int .u64 session,.int .i64 i,.int .i64 ps.length,.int .u32 (sum:Nat),.slice A1 (ps[i]'hi).length c1',.slice none 0 0]] w fun e w'=>∃ (b:Nat) (rc':RC),e=.returned (.slice (some ⟨b,0,none⟩) 1 1)∧OneG w' b 5 session 31 0 sum∧w.heap.size≤b∧RCell g (rc'.fail 31) w'∧rc'.st=rc.st∧Keep (fun k=>k=g) w w':=by
 have hg0:=(Keep.refl NoB w).alloc (.cells #[.int .i64 1,.int .u64 session,.int .i64 i,.int .i64 ps.length,.int .u32 (sum:Nat),.slice A1 (ps[i]'hi).length c1',.slice none 0 0] 46)
 have HZ:=LH (heap_alloc_new w (.cells #[.int .i64 1,.int .u64 session,.int .i64 i,.int .i64 ps.length,.int .u32 (sum:Nat),.slice A1 (ps[i]'hi).length c1',.slice none 0 0] 46))
 have HS:=LH (hs.grow hg0)
 have H:=LH (h.grow hg0)
 have HLT:Hid (g<w.heap.size):=LH h.lt
 have HG:=LH hg0
 have HB:=LH hb
 have HSN:Hid (∀ w',Keep (fun k=>k=g) (w.alloc (.cells #[.int .i64 1,.int .u64 session,.int .i64 i,.int .i64 ps.length,.int .u32 (sum:Nat),.slice A1 (ps[i]'hi).length c1',.slice none 0 0] 46)) w'→SliceR 1 (.slice A1 (ps[i]'hi).length c1') (ps[i]'hi).length (ints (ps[i]'hi)) w'):=LH (fun w' hk=>hsg w' ((hg0.mono (T:=fun k=>k=g) (fun _ h=>h.elim)).trans hk (fun _ h=>.inl h)))
 clear hsg
 have HF:=LH hF
 clear hF
 have hwi:(i:Int)<4:=by omega
 have hi1:¬ ((ps.length:Int)≤i):=by omega
 clear h hg0 hs hb
 go_enter Tryz.func109,Tryz.ntmps109
 obtain ⟨z0,z1,z2,z3,z4,z5,z6,zf⟩:=zC HZ.out
 obtain ⟨c0,c1,c2,c3,c4,c5,c6,c7,c8,c9,c10,c11,c12,c13,c14,c15,c16,c17,c18,c19,c20,cf⟩:=zH H.out
 rw [hpt] at c0
 rw [hph] at c6
 go_wp2
 have HGN:Hid (¬ w.heap.size=g):=LH (fun e=>by have:=HLT.out;omega)
 generalize w.alloc (.cells #[.int .i64 1,.int .u64 session,.int .i64 i,.int .i64 ps.length,.int .u32 (sum:Nat),.slice A1 (ps[i]'hi).length c1',.slice none 0 0] 46)=w1 at H HG HZ HS HSN ⊢
 clear c0 c1 c2 c3 c4 c5 c6 c7 c8 c9 c10 c11 c12 c13 c14 c15 c16 c17 c18 c19 c20 cf z0 z1 z2 z3 z4 z5 z6 zf
 obtain ⟨z0,z1,z2,z3,z4,z5,z6,zf⟩:=zC HZ.out
 obtain ⟨c0,c1,c2,c3,c4,c5,c6,c7,c8,c9,c10,c11,c12,c13,c14,c15,c16,c17,c18,c19,c20,cf⟩:=zH H.out
 refine ze (fun k=>k=g) [0,1,2,3,4,5,6,7,8,9,10,11,12,13,14,15,16,17,18,19,20,21,22] [13,16,19,22] [5,7,9] [] rfl (by kernel_rfl) ?_
 iterate 5
  refine ord_p ?_
 refine oc1 z1 ?_ (s0:=HGN.out)
 refine ord_p ?_
 refine oc1 z4 ?_ (s0:=HGN.out)
 refine ord_p ?_
 refine oc1 z3 ?_ (s0:=HGN.out)
 iterate 3
  refine ord_p ?_
 refine zJ rfl rfl rfl rfl ?_ ?_ ?_ ?_
 rotate_left
 ·go_simp;with_reducible rfl
 ·exact fun _=>zV _ _ _ _
 iterate 2
  refine ord_p ?_
 refine zJ rfl rfl rfl rfl ?_ ?_ ?_ ?_
 rotate_left
 ·go_simp;with_reducible rfl
 ·exact fun _=>zV _ _ _ _
 iterate 2
  refine ord_p ?_
 refine zJ rfl rfl rfl rfl ?_ ?_ ?_ ?_
 rotate_left
 ·go_simp;with_reducible rfl
 ·exact fun _=>zV _ _ _ _
 iterate 2
  refine ord_p ?_
 have hp1:=H.out.put (d':={ rc with phase:=1 }) 6 (.int .i64 1) rfl
 have hp2:=hp1.1.put (d':={ rc with phase:=1,session:=session }) 8 (.int .u64 session) rfl
 have hp3:=hp2.1.put (d':={ rc with phase:=1,session:=session,sum:=sum }) 9 (.int .u32 (sum:Nat)) rfl
 have hp4:=(show RCell g { rc with phase:=1,session:=session,sum:=sum } (((w1.setCell ⟨g,6,none⟩ (.int .i64 1)).setCell ⟨g,8,none⟩ (.int .u64 session)).setCell ⟨g,9,none⟩ (.int .u32 (sum:Nat))).drew from hp3.1)
 refine zsB rfl rfl rfl rfl _ _ _ rfl g 10 #[.int .i64 ps.length,qL,qL,qL,qL,qI,qI,qI,qI] rfl rfl _ _ (rc.hearing ps.length session sum).cs hp4 zXC (by simp [RC.cs]) rfl (by simp [Value.oneCell']) (fun _=>(Keep.refl (fun k=>k=g) _).setRow (.inl rfl) _) ?_
 have hr4:=setRow_heap _ g _ (rc.hearing ps.length session sum).cs _ _ hp4
 have hk4:=((((Keep.refl (fun k=>k=g) w1).trans hp1.2 (fun _ h=>.inl h)).trans hp2.2 (fun _ h=>.inl h)).trans hp3.2 (fun _ h=>.inl h)).drew.setRow (.inl rfl) (rc.hearing ps.length session sum).cs
 refine zD ?_
 replace HZ:=LH ((hk4.block _ (gE HZ.out).1 HGN.out).trans HZ.out)
 have hgs:Hid (∀ k,(Value.slice A1 (ps[i]'hi).length c1').ownBlock=some k→True):=LH (fun _ _=>trivial)
 replace HS:=LH (HSN.out _ hk4)
 replace HG:=LH ((HG.out.mono (T:=fun k=>k=g) (fun _ h=>h.elim)).trans hk4 (fun _ h=>.inl h))
 have HR4:=LH hr4
 clear hp1 hp2 hp3 hp4 hr4 hk4 hgs HSN H c0 c1 c2 c3 c4 c5 c6 c7 c8 c9 c10 c11 c12 c13 c14 c15 c16 c17 c18 c19 c20 cf z0 z1 z2 z3 z4 z5 z6 zf
 generalize World.setRow (((w1.setCell ⟨g,6,none⟩ (.int .i64 1)).setCell ⟨g,8,none⟩ (.int .u64 session)).setCell ⟨g,9,none⟩ (.int .u32 (sum:Nat))).drew g (rc.hearing ps.length session sum).cs=w9 at HR4 HG HZ HS ⊢
 have H:Hid (RCell g (rc.hearing ps.length session sum) w9):=LH HR4.out
 clear HR4
 obtain ⟨z0,z1,z2,z3,z4,z5,z6,zf⟩:=zC HZ.out
 obtain ⟨c0,c1,c2,c3,c4,c5,c6,c7,c8,c9,c10,c11,c12,c13,c14,c15,c16,c17,c18,c19,c20,cf⟩:=zH H.out
 rw [show (rc.hearing ps.length session sum).of=(ps.length:Int) from rfl] at c10
 have ch:=H.out.h_cell i (by omega)
 rw [show (rc.hearing ps.length session sum).h i=false from by unfold RC.h RC.hearing;split <;> rfl] at ch
 go_wp2
 refine zE [0,1,2,3,4,5,6,7,8,9,10,11,12,13,14,15] [] [1,5,10,14] [] rfl (by kernel_rfl) ?_
 refine ord_p ?_
 refine oc1 z3 ?_
 iterate 3
  refine ord_p ?_
 refine oc1 c10 ?_
 iterate 2
  refine ord_p ?_
 iterate 2
  refine zT ?_
 refine oc1G z2 ?_
 iterate 3
  refine zT ?_
 refine oc1G ch ?_
 refine ord_p ?_
 refine zD ?_
 clear z0 z1 z2 z3 z4 z5 z6 zf c0 c1 c2 c3 c4 c5 c6 c7 c8 c9 c10 c11 c12 c13 c14 c15 c16 c17 c18 c19 c20 cf ch
 replace H:=LH ((show RCell g (rc.hearing ps.length session sum) w9.drew from H.out))
 replace HG:=LH (HG.out.drew)
 replace HZ:=LH ((show w9.drew.heap[_]? = _ from HZ.out))
 replace HS:=LH (HS.out.grow (Keep.refl NoB w9).drew)
 generalize w9.drew=w2 at H HG HZ HS ⊢
 obtain ⟨z0,z1,z2,z3,z4,z5,z6,zf⟩:=zC HZ.out
 go_wp2
 refine ze (fun k=>k=g) [0,1,2,3,4,5,6,7,9,10,13,14,8,11,12,15,16] [8,12,16] [2,5,7] [] rfl (by kernel_rfl) ?_
 iterate 2
  refine ord_p ?_
 refine oc1 z2 ?_ (s0:=HGN.out)
 iterate 2
  refine ord_p ?_
 refine oc1 z2 ?_ (s0:=HGN.out)
 refine ord_p ?_
 refine oc1 z5 ?_ (s0:=HGN.out)
 iterate 4
  refine ord_p ?_
 refine zG rfl rfl rfl rfl rfl Tryz.func178 rfl rfl [.slice A1 (ps[i]'hi).length c1'] rfl ?_
 refine (zEA _ (ps[i]'hi) w2.drew (HS.out.grow (Keep.refl NoB w2).drew) (by omega)).mono ?_
 rintro e w3 ⟨A5,c5,rfl,ho5,hg5⟩
 refine ⟨_,rfl,fun _=>hg5.mono (fun _ h=>h.elim),?_⟩
 simp only [Act.put,pB,pC,pD]
 have h3:RCell g (rc.hearing ps.length session sum) w3:=H.out.grow ((Keep.refl NoB w2).drew.grow hg5)
 have ch:=h3.h_cell i (by omega)
 have cf:∀ o,w3.frozen? ⟨g,o,none⟩=false:=fun o=>zN o h3
 refine ord_p ?_
 refine zJ rfl rfl rfl rfl ?_ ?_ ?_ ?_
 rotate_left
 ·go_simp;with_reducible rfl
 ·exact fun _=>zV _ _ _ _
 have h4':=h3.put (d':=(rc.hearing ps.length session sum).setH i) (11+i) (.bool true) (RC.setH_cs _ i (by omega))
 have cz:=h4'.1.z_cell i (by omega)
 have cf2:∀ o,(w3.setCell ⟨g,11+i,none⟩ (.bool true)).frozen? ⟨g,o,none⟩=false:=fun o=>zN o h4'.1
 refine ord_p ?_
 refine zJ rfl rfl rfl rfl ?_ ?_ ?_ ?_
 rotate_left
 ·go_simp;with_reducible rfl
 ·exact fun _=>zV _ _ _ _
 have h5':=h4'.1.put (d':=((rc.hearing ps.length session sum).setH i).setZ i ⟨A5,(ps[i]'hi).length,c5⟩) (15+i) (.slice A5 (ps[i]'hi).length c5) (RC.setZ_cs _ i (by omega) ⟨A5,(ps[i]'hi).length,c5⟩)
 refine zD ?_
 have hkg:=h4'.2.trans h5'.2 (fun _ h=>.inl h)
 have hgr3:=(Keep.refl NoB w2).drew.grow hg5
 have hw2:=HG.out.size
 have hdw:w2.drew.heap.size=w2.heap.size:=rfl
 have hng:∀ k,(Value.slice A5 (ps[i]'hi).length c5).ownBlock=some k→¬ k=g:=fun k hk e=>by have:=(ho5.lt k hk).1;have:=HLT.out;omega
 have HO5:=LH (zF ho5 hkg hng)
 have HO5s:Hid (∀ k,(Value.slice A5 (ps[i]'hi).length c5).ownBlock=some k→w.heap.size≤k):=LH (fun k hk=>by have:=(ho5.lt k hk).1;omega)
 have HHE:=LH (Hear.none (rc:=(rc.hearing ps.length session sum)) (ps:=ps) (fun j=>by unfold RC.h RC.hearing;split <;> rfl) ((w3.setCell ⟨g,11+i,none⟩ (.bool true)).setCell ⟨g,15+i,none⟩ (.slice A5 (ps[i]'hi).length c5)))
 replace HHE:=LH (HHE.out.more i hi h4 HO5.out)
 have HKG:=LH ((HG.out.grow hgr3).trans hkg (fun _ h=>.inl h))
 have HNZ:=LH (And.intro h5'.1 hkg)
 clear ho5 hg5 h3 ch cf h4' cz cf2 h5' hkg hgr3 hw2 hdw hng z0 z1 z2 z3 z4 z5 z6 zf HO5
 obtain ⟨w5,hw5⟩:∃ w5,((w3.setCell ⟨g,11+i,none⟩ (.bool true)).setCell ⟨g,15+i,none⟩ (.slice A5 (ps[i]'hi).length c5))=w5:=⟨_,rfl⟩
 rw [hw5] at HHE HKG HNZ ⊢
 replace H:=LH HNZ.out.1
 have HBS:Hid (((List.range ps.length).map (((rc.hearing ps.length session sum).setH i).setZ i ⟨A5,(ps[i]'hi).length,c5⟩).h).contains false=false):=LH (by rw [RC.setZ_h];exact HB.out)
 have hrest:=RC.set_rest (rc.hearing ps.length session sum) i (by omega) ⟨A5,(ps[i]'hi).length,c5⟩
 obtain ⟨rc2,hrc2⟩:∃ r,((rc.hearing ps.length session sum).setH i).setZ i ⟨A5,(ps[i]'hi).length,c5⟩=r:=⟨_,rfl⟩
 rw [hrc2] at H HHE HBS hrest
 have HRST:=LH hrest
 have hof2:rc2.of=ps.length:=by rw [hrest];rfl
 clear HNZ hw5 hrc2 hrest HB HZ HS HG
 obtain ⟨c0,c1,c2,c3,c4,c5,c6,c7,c8,c9,c10,c11,c12,c13,c14,c15,c16,c17,c18,c19,c20,cf⟩:=zH H.out
 rw [hof2] at c10
 go_wp2
 have hC:=zFA _ _ HBS.out (some ⟨g,11,none⟩) 4 w5.drew (by have:=(show RCell g rc2 w5.drew from H.out).heardR ps.length h4;rw [List.length_map,List.length_range];exact this) (by rw [List.length_map,List.length_range];omega)
 rw [List.length_map,List.length_range] at hC
 have HC:=LH hC
 clear hC
 have hpl:(ps.length:Int)≤4:=by omega
 refine zE [0,1,2,3,4,5,6,7,8] [8] [6] [] rfl (by kernel_rfl) ?_
 iterate 6
  refine ord_p ?_
 refine oc1 c10 ?_
 refine ord_p ?_
 refine zG rfl rfl rfl rfl rfl Tryz.func179 rfl rfl [.slice (some ⟨g,11,none⟩) ps.length 4,.bool false] rfl ?_
 refine HC.out.mono ?_
 rintro e w6 ⟨rfl,rfl⟩
 refine ⟨_,rfl,fun _=>Keep.refl _ _,?_⟩
 simp only [Act.put,pB,pC,pD]
 refine zD ?_
 clear HC c0 c1 c2 c3 c4 c5 c6 c7 c8 c9 c10 c11 c12 c13 c14 c15 c16 c17 c18 c19 c20 cf
 replace H:=LH ((show RCell g rc2 w5.drew from H.out))
 replace HHE:=LH (HHE.out.keep (Keep.refl NoB w5).drew (fun _ _ h=>h))
 replace HKG:=LH (HKG.out.drew)
 generalize w5.drew=w6 at H HHE HKG ⊢
 obtain ⟨c0,c1,c2,c3,c4,c5,c6,c7,c8,c9,c10,c11,c12,c13,c14,c15,c16,c17,c18,c19,c20,cf⟩:=zH H.out
 rw [hof2] at c10
 go_wp2
 have HKW:=LH HKG.out
 have HJ:=LH (zdB ps F HF.out (some ⟨g,15,none⟩) 4 w6.drew ((show RCell g rc2 w6.drew from H.out).pagesR (HHE.out.keep (Keep.refl NoB w6).drew (fun _ _ h=>h)) h4 HBS.out))
 refine zE [0,1,2,3,4,5,6,7,8,9,10,11,12,13] [8,12,13] [6] [] rfl (by kernel_rfl) ?_
 iterate 6
  refine ord_p ?_
 refine oc1 c10 ?_
 refine ord_p ?_
 refine zG rfl rfl rfl rfl rfl Tryz.func180 rfl rfl [.slice (some ⟨g,15,none⟩) ps.length 4] rfl ?_
 refine HJ.out.mono ?_
 rintro e w7 ⟨A7,c7',rfl,hg7,ho7⟩
 refine ⟨_,rfl,fun _=>hg7,?_⟩
 simp only [Act.put,pB,pC,pD]
 iterate 3
  refine ord_p ?_
 iterate 2
  refine ord_s ?_
 refine zD ?_
 have hgr7:=(Keep.refl NoB w6).drew.grow hg7
 replace H:=LH (H.out.grow hgr7)
 replace HKG:=LH (HKG.out.grow hgr7)
 have HO7:=LH ho7
 have HKW7:=LH HKG.out
 have HO7s:Hid (w.heap.size≤w6.heap.size):=LH HKW.out.size
 clear HJ hg7 ho7 hgr7 HHE c0 c1 c2 c3 c4 c5 c6 c7 c8 c9 c10 c11 c12 c13 c14 c15 c16 c17 c18 c19 c20 cf
 obtain ⟨c0,c1,c2,c3,c4,c5,c6,c7,c8,c9,c10,c11,c12,c13,c14,c15,c16,c17,c18,c19,c20,cf⟩:=zH H.out
 go_wp2
 have hses2:rc2.session=session:=by rw [HRST.out];try rfl
 have hsum2:rc2.sum=sum:=by rw [HRST.out];try rfl
 have hquo2:rc2.quota=rc.quota:=by rw [HRST.out];try rfl
 have hst2:rc2.st=rc.st:=by rw [HRST.out];try rfl
 rw [hses2] at c8
 rw [hsum2] at c9
 rw [hquo2] at c4
 rw [hst2] at c5
 refine zE [0,1,2,3,4,5,6,7,8,9,10,11] [10,11] [3,8] [11] rfl (by kernel_rfl) ?_
 iterate 3
  refine ord_p ?_
 refine oc1 c8 ?_
 iterate 4
  refine ord_p ?_
 refine oc1 c9 ?_
 refine ord_p ?_
 refine zh rfl rfl rfl rfl ?_ ?_ ?_ ?_ ?_ ?_
 rotate_left 3
 ·go_simp;first | with_reducible rfl | (constructor <;> with_reducible rfl)
 ·simp only [Act.put,pB,pC,pD];rfl
 refine zJ rfl rfl rfl rfl ?_ ?_ (fun h=>absurd (by simp) h) ?_
 rotate_left
 ·go_simp;with_reducible rfl
 refine zD ?_
 have hga:=((Keep.refl NoB w7).alloc (.cells #[.int .u64 session,.slice A7 F.length c7',.int .u32 (sum:Nat)] 40)).drew
 have HM:=LH (show (w7.alloc (.cells #[.int .u64 session,.slice A7 F.length c7',.int .u32 (sum:Nat)] 40)).drew.heap[w7.heap.size]? = _ from heap_alloc_new w7 (.cells #[.int .u64 session,.slice A7 F.length c7',.int .u32 (sum:Nat)] 40))
 replace H:=LH (H.out.grow hga)
 replace HKG:=LH (HKG.out.grow hga)
 replace HO7:=LH (zF HO7.out hga (fun _ _ h=>h))
 have hN7:w.heap.size≤w7.heap.size:=by have:=HKW7.out.size;exact this
 generalize hw8:(w7.alloc (.cells #[.int .u64 session,.slice A7 F.length c7',.int .u32 (sum:Nat)] 40)).drew=w8 at H HKG HO7 HM ⊢
 obtain ⟨N,hN⟩:∃ N,w7.heap.size=N:=⟨_,rfl⟩
 rw [hN] at HM hN7 ⊢
 clear hga hw8 hN c0 c1 c2 c3 c4 c5 c6 c7 c8 c9 c10 c11 c12 c13 c14 c15 c16 c17 c18 c19 c20 cf
 obtain ⟨c0,c1,c2,c3,c4,c5,c6,c7,c8,c9,c10,c11,c12,c13,c14,c15,c16,c17,c18,c19,c20,cf⟩:=zH H.out
 rw [hquo2] at c4
 rw [hst2] at c5
 obtain ⟨m0,m1,m2,mf⟩:=zI HM.out
 have hFP:=zM HF.out.fit
 have hF0:0≤F.sum:=zbA hFP.2.2.1
 have hw9:IntKind.i64.wrap (F.sum*8)=F.sum*8:=IntWalk.i64_in _ (by omega)
 have hgt:rc.quota<F.sum*8:=by omega
 have HMW:=LH (zTA session sum A7 c7' F w8.drew (SliceR.of_own (zF HO7.out (Keep.refl NoB w8).drew (fun _ _ h=>h))) HF.out.fit)
 clear hFP
 go_wp2
 refine zE [0,3,4,5,6,7,1,2,8] [1] [0,7] [] rfl (by kernel_rfl) ?_
 refine oc3 m0 m1 m2 ?_
 iterate 4
  refine ord_p ?_
 refine oc1 c4 ?_
 refine zG rfl rfl rfl rfl rfl Tryz.func102 rfl rfl [.agg #[.int .u64 session,.slice A7 F.length c7',.int .u32 (sum:Nat)]] rfl ?_
 refine HMW.out.mono ?_
 rintro e w9' ⟨rfl,hg9⟩
 refine ⟨_,rfl,fun _=>hg9,?_⟩
 simp only [Act.put,pB,pC,pD]
 iterate 2
  refine ord_p ?_
 refine zD ?_
 have hgr9:=(Keep.refl NoB w8).drew.grow hg9
 replace H:=LH (H.out.grow hgr9)
 replace HKG:=LH (HKG.out.grow hgr9)
 replace HO7:=LH (zF HO7.out hgr9 (fun _ _ h=>h))
 replace HM:=LH (Grow.heap hgr9 HM.out)
 clear HMW hg9 hgr9 m0 m1 m2 mf c0 c1 c2 c3 c4 c5 c6 c7 c8 c9 c10 c11 c12 c13 c14 c15 c16 c17 c18 c19 c20 cf
 go_wp2_with fail
 refine (zeC H.out 31 (by omega)).mono ?_
 rintro e w10 ⟨b,rfl,hO,hb,hR,hK⟩
 have HP:=LH (show ∃ (bb:Nat) (rc':RC),b=bb∧OneG w10 bb 5 session 31 0 sum∧w.heap.size≤bb∧RCell g (rc'.fail 31) w10∧rc'.st=rc.st∧Keep (fun k=>k=g) w w10 from ⟨b,rc2,rfl,by rw [← hses2,← hsum2];exact hO,Nat.le_trans HKG.out.size hb,hR,hst2,HKG.out.trans hK (fun _ h=>.inl h)⟩)
 clear hO hb hR hK
 go_wp2
 go_ret
 obtain ⟨bb,rc',rfl,h1,h2,h3,h4,h5⟩:=HP.out
 exact ⟨b,rc',rfl,h1,h2,h3,h4,h5⟩
structure RcvAt (g:Nat) (rc:RC) (b:Nat) (p:PP) (d:Par) (G:Nat→Prop) (k:KS) (Gk:Nat→Prop) (w:World):Prop where
 cell:RCell g rc w
 part:rc.part=some ⟨b,0,none⟩
 pat:PAt b p d G w
 kat:KAt rc.st k Gk w
 gb:g≠b∧g≠p.wb∧¬ G g∧¬ KF rc.st k g∧¬ Gk g
 kf:∀ j,KF rc.st k j→j≠b∧j≠p.wb∧¬ G j
 kg:¬ Gk b∧¬ Gk p.wb
def RF (g:Nat) (st b:Nat) (p:PP) (k:KS):Nat→Prop:=fun j=>j=g∨j=b∨j=p.wb∨KF st k j
theorem RcvAt.keep {g:Nat} {rc:RC} {b:Nat} {p:PP} {d:Par} {G:Nat→Prop} {k:KS} {Gk S:Nat→Prop} {w w':World} (h:RcvAt g rc b p d G k Gk w) (hk:Keep S w w') (h1:∀ j,RF g rc.st b p k j→¬ S j) (h2:∀ j,G j→¬ S j) (h3:∀ j,Gk j→¬ S j):RcvAt g rc b p d G k Gk w' :=
 ⟨h.cell.keep hk (h1 g (.inl rfl)),h.part,h.pat.keep hk (h1 b (.inr (.inl rfl))) (h1 p.wb (.inr (.inr (.inl rfl)))) h2,h.kat.keep hk (fun j hj=>h1 j (.inr (.inr (.inr hj)))) h3,h.gb,h.kf,h.kg⟩
theorem RcvAt.grow {g:Nat} {rc:RC} {b:Nat} {p:PP} {d:Par} {G:Nat→Prop} {k:KS} {Gk:Nat→Prop} {w w':World} (h:RcvAt g rc b p d G k Gk w) (hk:Grow w w'):RcvAt g rc b p d G k Gk w':=h.keep hk (fun _ _ h=>h) (fun _ _ h=>h) (fun _ _ h=>h)
theorem RcvAt.small {g:Nat} {rc:RC} {b:Nat} {p:PP} {d:Par} {G:Nat→Prop} {k:KS} {Gk:Nat→Prop} {w:World} (h:RcvAt g rc b p d G k Gk w):(∀ j,RF g rc.st b p k j→j<w.heap.size)∧(∀ j,G j→j<w.heap.size)∧∀ j,Gk j→j<w.heap.size :=
 ⟨fun j hj=>by
  rcases hj with e | e | e | e
  ·rw [e];exact h.cell.lt
  ·rw [e];exact h.pat.lt.1
  ·rw [e];exact h.pat.lt.2
  ·exact h.kat.small j e,h.pat.ro.1,h.kat.ro.1⟩
theorem RcvAt.put {g:Nat} {rc rc':RC} {b:Nat} {p:PP} {d:Par} {G:Nat→Prop} {k:KS} {Gk:Nat→Prop} {w:World} (h:RcvAt g rc b p d G k Gk w) (i:Nat) (v:Value) (hd:rc.cs.setIfInBounds i v=rc'.cs) (hpt:rc'.part=rc.part) (hst:rc'.st=rc.st):RcvAt g rc' b p d G k Gk (w.setCell ⟨g,i,none⟩ v)∧Keep (fun j=>j=g) w (w.setCell ⟨g,i,none⟩ v):=by
 have hp:=h.cell.put i v hd
 have hS:=h.pat.keep hp.2 (fun e=>h.gb.1 e.symm) (fun e=>h.gb.2.1 e.symm) (fun j hj e=>h.gb.2.2.1 (by rw [← e];exact hj))
 have hK:=h.kat.keep hp.2 (fun j hj e=>h.gb.2.2.2.1 (by rw [← e];exact hj)) (fun j hj e=>h.gb.2.2.2.2 (by rw [← e];exact hj))
 exact ⟨⟨hp.1,hpt.trans h.part,hS,by rw [hst];exact hK,by rw [hst];exact h.gb,by rw [hst];exact h.kf,h.kg⟩,hp.2⟩
theorem RcvAt.morePart {g:Nat} {rc:RC} {b:Nat} {p p':PP} {d d':Par} {G G':Nat→Prop} {k:KS} {Gk:Nat→Prop} {w w':World} (h:RcvAt g rc b p d G k Gk w) (hwb:p'.wb=p.wb) (hP:PAt b p' d' G' w') (hk:Keep (fun j=>j=b∨j=p.wb) w w') (hG:∀ j,G' j→G j∨w.heap.size≤j):RcvAt g rc b p' d' G' k Gk w':=by
 have hs:=h.small
 have hgl:=h.cell.lt
 refine ⟨h.cell.keep hk (fun e=>e.elim h.gb.1 h.gb.2.1),h.part,hP,h.kat.keep hk (fun j hj e=>e.elim (h.kf j hj).1 (h.kf j hj).2.1) (fun j hj e=>e.elim (fun e=>h.kg.1 (by rw [← e];exact hj)) (fun e=>h.kg.2 (by rw [← e];exact hj))),⟨h.gb.1,by rw [hwb];exact h.gb.2.1,fun e=>?_,h.gb.2.2.2⟩,fun j hj=>⟨(h.kf j hj).1,by rw [hwb];exact (h.kf j hj).2.1,fun e=>?_⟩,by rw [hwb];exact h.kg⟩
 ·rcases hG g e with e | e
  ·exact h.gb.2.2.1 e
  ·omega
 ·rcases hG j e with e | e
  ·exact (h.kf j hj).2.2 e
  ·have:=hs.1 j (.inr (.inr (.inr hj)));omega
theorem RcvAt.moreStore {g:Nat} {rc:RC} {b:Nat} {p:PP} {d:Par} {G:Nat→Prop} {k k':KS} {Gk Gk':Nat→Prop} {w w':World} (h:RcvAt g rc b p d G k Gk w) (hK:KAt rc.st k' Gk' w') (hk:Keep (KF rc.st k) w w') (hF:∀ j,KF rc.st k' j→KF rc.st k j∨w.heap.size≤j) (hG:∀ j,Gk' j→Gk j∨w.heap.size≤j):RcvAt g rc b p d G k' Gk' w':=by
 have hs:=h.small
 have hgl:=h.cell.lt
 have hpl:=h.pat.lt
 refine ⟨h.cell.keep hk h.gb.2.2.2.1,h.part,h.pat.keep hk (fun e=>(h.kf b e).1 rfl) (fun e=>(h.kf p.wb e).2.1 rfl) (fun j hj e=>(h.kf j e).2.2 hj),hK,⟨h.gb.1,h.gb.2.1,h.gb.2.2.1,fun e=>?_,fun e=>?_⟩,fun j hj=>?_,fun e=>?_,fun e=>?_⟩
 ·rcases hF g e with e | e
  ·exact h.gb.2.2.2.1 e
  ·omega
 ·rcases hG g e with e | e
  ·exact h.gb.2.2.2.2 e
  ·omega
 ·rcases hF j hj with e | e
  ·exact h.kf j e
  ·exact ⟨by omega,by omega,fun e2=>by have:=hs.2.1 j e2;omega⟩
 ·rcases hG b e with e | e
  ·exact h.kg.1 e
  ·omega
 ·rcases hG p.wb e with e | e
  ·exact h.kg.2 e
  ·omega
def Par.more (d:Par) (i:Nat) (bs:List Int):Par:={ d with words:=setN d.words i bs (bs.length/8),known:=setB d.known i }
theorem zbI {g:Nat} {rc:RC} {w:World} (h:RCell g rc w) (hph:rc.phase=1) (hpt:rc.part=none) (session i of:Int) (sum:Nat) (A2:Option Addr) (n2 c2':Nat) :
    Calls Tryz.prog 110 #[.pointer (some ⟨g,0,none⟩),.agg #[qQ,.int .u64 session,.int .i64 i,.int .i64 of,.int .u32 (sum:Nat),qI,.slice A2 n2 c2']] w fun e w'=>e=.returned (.slice none 0 0)∧RCell g { rc with closed:=false } w'∧Keep (fun k=>k=g) w w':=by
 have hg0:=(Keep.refl NoB w).alloc (.cells #[qQ,.int .u64 session,.int .i64 i,.int .i64 of,.int .u32 (sum:Nat),qI,.slice A2 n2 c2'] 46)
 have HZ:=LH (heap_alloc_new w (.cells #[qQ,.int .u64 session,.int .i64 i,.int .i64 of,.int .u32 (sum:Nat),qI,.slice A2 n2 c2'] 46))
 have HLT:Hid (g<w.heap.size):=LH h.lt
 have H:=LH (h.grow hg0)
 have HG:=LH hg0
 clear h hg0
 go_enter Tryz.func110,Tryz.ntmps110
 obtain ⟨c0,c1,c2,c3,c4,c5,c6,c7,c8,c9,c10,c11,c12,c13,c14,c15,c16,c17,c18,c19,c20,cf⟩:=zH H.out
 go_wp2
 have h2:=H.out.put (d':={ rc with closed:=false }) 20 (.bool false) rfl
 have HGN:Hid (¬ w.heap.size=g):=LH (fun e=>by have:=HLT.out;omega)
 replace HZ:=LH ((h2.2.block _ (gE HZ.out).1 HGN.out).trans HZ.out)
 have HK:=LH ((HG.out.mono (T:=fun k=>k=g) (fun _ h=>h.elim)).trans h2.2 (fun _ h=>.inl h))
 replace H:=LH h2.1
 clear h2 HG c0 c1 c2 c3 c4 c5 c6 c7 c8 c9 c10 c11 c12 c13 c14 c15 c16 c17 c18 c19 c20 cf
 generalize (w.alloc (.cells #[qQ,.int .u64 session,.int .i64 i,.int .i64 of,.int .u32 (sum:Nat),qI,.slice A2 n2 c2'] 46)).setCell ⟨g,20,none⟩ (.bool false)=w2 at H HZ HK ⊢
 obtain ⟨c0,c1,c2,c3,c4,c5,c6,c7,c8,c9,c10,c11,c12,c13,c14,c15,c16,c17,c18,c19,c20,cf⟩:=zH H.out
 rw [show ({ rc with closed:=false }:RC).part=none from hpt] at c0
 rw [show ({ rc with closed:=false }:RC).phase=1 from hph] at c6
 go_wp2
 refine zE [0,1,2,3,4,5,6,7,8,9,10,11,12,13,14,15,16,17,18,19,20,21,22] [19,20] [3,9,14,18] [] rfl (by kernel_rfl) ?_
 iterate 3
  refine ord_p ?_
 refine oc1 c6 ?_
 iterate 2
  refine ord_p ?_
 iterate 3
  refine zT ?_
 refine oc1G c0 ?_
 refine zT ?_
 iterate 2
  refine ord_p ?_
 iterate 6
  refine zIB rfl rfl rfl rfl (fun _ _ _ _ h=>h) ?_ ?_ ?_
  rotate_left 1
  ·simp only [Act.put,pB,pC,pD];rfl
 iterate 2
  refine zoH rfl rfl rfl _ (by simp only [Act.put,pB,pC,pD];rfl) ?_
 refine zIB rfl rfl rfl rfl (fun _ _ _ _ h=>h) ?_ ?_ ?_
 rotate_left 1
 ·simp only [Act.put,pB,pC,pD];rfl
 refine ord_p ?_
 refine zD ?_
 clear c0 c1 c2 c3 c4 c5 c6 c7 c8 c9 c10 c11 c12 c13 c14 c15 c16 c17 c18 c19 c20 cf
 go_wp2
 go_ret
 exact ⟨rfl,(show RCell g { rc with closed:=false } w2.drew from H.out),HK.out.drew⟩
theorem zcI {g:Nat} {rc:RC} {w:World} (h:RCell g rc w) (hph:rc.phase=2) (session i of:Int) (sum:Nat) (A2:Option Addr) (n2 c2':Nat) :
    Calls Tryz.prog 110 #[.pointer (some ⟨g,0,none⟩),.agg #[qQ,.int .u64 session,.int .i64 i,.int .i64 of,.int .u32 (sum:Nat),qI,.slice A2 n2 c2']] w fun e w'=>e=.returned (.slice none 0 0)∧RCell g { rc with closed:=false } w'∧Keep (fun k=>k=g) w w':=by
 have hg0:=(Keep.refl NoB w).alloc (.cells #[qQ,.int .u64 session,.int .i64 i,.int .i64 of,.int .u32 (sum:Nat),qI,.slice A2 n2 c2'] 46)
 have HZ:=LH (heap_alloc_new w (.cells #[qQ,.int .u64 session,.int .i64 i,.int .i64 of,.int .u32 (sum:Nat),qI,.slice A2 n2 c2'] 46))
 have HLT:Hid (g<w.heap.size):=LH h.lt
 have H:=LH (h.grow hg0)
 have HG:=LH hg0
 clear h hg0
 go_enter Tryz.func110,Tryz.ntmps110
 obtain ⟨c0,c1,c2,c3,c4,c5,c6,c7,c8,c9,c10,c11,c12,c13,c14,c15,c16,c17,c18,c19,c20,cf⟩:=zH H.out
 go_wp2
 have h2:=H.out.put (d':={ rc with closed:=false }) 20 (.bool false) rfl
 have HGN:Hid (¬ w.heap.size=g):=LH (fun e=>by have:=HLT.out;omega)
 replace HZ:=LH ((h2.2.block _ (gE HZ.out).1 HGN.out).trans HZ.out)
 have HK:=LH ((HG.out.mono (T:=fun k=>k=g) (fun _ h=>h.elim)).trans h2.2 (fun _ h=>.inl h))
 replace H:=LH h2.1
 clear h2 HG c0 c1 c2 c3 c4 c5 c6 c7 c8 c9 c10 c11 c12 c13 c14 c15 c16 c17 c18 c19 c20 cf
 generalize (w.alloc (.cells #[qQ,.int .u64 session,.int .i64 i,.int .i64 of,.int .u32 (sum:Nat),qI,.slice A2 n2 c2'] 46)).setCell ⟨g,20,none⟩ (.bool false)=w2 at H HZ HK ⊢
 obtain ⟨c0,c1,c2,c3,c4,c5,c6,c7,c8,c9,c10,c11,c12,c13,c14,c15,c16,c17,c18,c19,c20,cf⟩:=zH H.out
 rw [show ({ rc with closed:=false }:RC).phase=2 from hph] at c6
 go_wp2
 refine zE [0,1,2,3,4,5,6,7,8,9,10,11,12,13,14,15,16,17,18,19,20,21,22] [19,20] [3,9,14,18] [] rfl (by kernel_rfl) ?_
 iterate 3
  refine ord_p ?_
 refine oc1 c6 ?_
 iterate 2
  refine ord_p ?_
 iterate 5
  refine zIB rfl rfl rfl rfl (fun _ _ _ _ h=>h) ?_ ?_ ?_
  rotate_left 1
  ·simp only [Act.put,pB,pC,pD];rfl
 iterate 2
  refine ord_p ?_
 iterate 6
  refine zIB rfl rfl rfl rfl (fun _ _ _ _ h=>h) ?_ ?_ ?_
  rotate_left 1
  ·simp only [Act.put,pB,pC,pD];rfl
 iterate 2
  refine zoH rfl rfl rfl _ (by simp only [Act.put,pB,pC,pD];rfl) ?_
 refine zIB rfl rfl rfl rfl (fun _ _ _ _ h=>h) ?_ ?_ ?_
 rotate_left 1
 ·simp only [Act.put,pB,pC,pD];rfl
 refine ord_p ?_
 refine zD ?_
 clear c0 c1 c2 c3 c4 c5 c6 c7 c8 c9 c10 c11 c12 c13 c14 c15 c16 c17 c18 c19 c20 cf
 go_wp2
 go_ret
 exact ⟨rfl,(show RCell g { rc with closed:=false } w2.drew from H.out),HK.out.drew⟩
theorem ztJ {g b:Nat} {rc:RC} {p:PP} {d:Par} {G:Nat→Prop} {k:KS} {Gk:Nat→Prop} {w:World} (h:RcvAt g rc b p d G k Gk w) (hph:rc.phase=1) (i:Nat) (hi:i<chunksN d.sz) (hgb:getB d.known i=true) (hno:popB d.known<chunksN d.sz) (session:Int) (sum:Nat) (A2:Option Addr) (n2 c2':Nat) (hl:(n2:Int)=sizeN d.sz i) :
    Calls Tryz.prog 110 #[.pointer (some ⟨g,0,none⟩),.agg #[qQ,.int .u64 session,.int .i64 i,.int .i64 (chunksN d.sz:Nat),.int .u32 (sum:Nat),qI,.slice A2 n2 c2']] w fun e w'=>e=.returned (.slice none 0 0)∧RcvAt g { rc with closed:=false,resumed:=false } b p d G k Gk w'∧Keep (fun k=>k=g) w w':=by
 have hg0:=(Keep.refl NoB w).alloc (.cells #[qQ,.int .u64 session,.int .i64 i,.int .i64 (chunksN d.sz:Nat),.int .u32 (sum:Nat),qI,.slice A2 n2 c2'] 46)
 have HZ:=LH (heap_alloc_new w (.cells #[qQ,.int .u64 session,.int .i64 i,.int .i64 (chunksN d.sz:Nat),.int .u32 (sum:Nat),qI,.slice A2 n2 c2'] 46))
 have HLT:Hid (g<w.heap.size):=LH h.cell.lt
 have H:=LH (h.grow hg0)
 have HG:=LH hg0
 have HGB:=LH hgb
 clear hgb
 clear h hg0
 go_enter Tryz.func110,Tryz.ntmps110
 obtain ⟨c0,c1,c2,c3,c4,c5,c6,c7,c8,c9,c10,c11,c12,c13,c14,c15,c16,c17,c18,c19,c20,cf⟩:=zH H.out.cell
 go_wp2
 have h2:=H.out.put (rc':={ rc with closed:=false }) 20 (.bool false) rfl rfl rfl
 have HGN:Hid (¬ w.heap.size=g):=LH (fun e=>by have:=HLT.out;omega)
 replace HZ:=LH ((h2.2.block _ (gE HZ.out).1 HGN.out).trans HZ.out)
 have HK:=LH ((HG.out.mono (T:=fun k=>k=g) (fun _ h=>h.elim)).trans h2.2 (fun _ h=>.inl h))
 replace H:=LH h2.1
 clear h2 HG c0 c1 c2 c3 c4 c5 c6 c7 c8 c9 c10 c11 c12 c13 c14 c15 c16 c17 c18 c19 c20 cf
 generalize (w.alloc (.cells #[qQ,.int .u64 session,.int .i64 i,.int .i64 (chunksN d.sz:Nat),.int .u32 (sum:Nat),qI,.slice A2 n2 c2'] 46)).setCell ⟨g,20,none⟩ (.bool false)=w2 at H HZ HK ⊢
 obtain ⟨c0,c1,c2,c3,c4,c5,c6,c7,c8,c9,c10,c11,c12,c13,c14,c15,c16,c17,c18,c19,c20,cf⟩:=zH H.out.cell
 rw [show ({ rc with closed:=false }:RC).part=some ⟨b,0,none⟩ from H.out.part] at c0
 rw [show ({ rc with closed:=false }:RC).phase=1 from hph] at c6
 obtain ⟨z0,z1,z2,z3,z4,z5,z6,zf⟩:=zC HZ.out
 go_wp2
 refine zE [0,1,2,3,4,5,6,7,8,9,10,11,12,13,14,15,16,17,18,19,20,21,22] [19,20] [3,9,14,18] [] rfl (by kernel_rfl) ?_
 iterate 3
  refine ord_p ?_
 refine oc1 c6 ?_
 iterate 2
  refine ord_p ?_
 iterate 3
  refine zT ?_
 refine oc1G c0 ?_
 refine zT ?_
 iterate 2
  refine ord_p ?_
 refine zT ?_
 refine oc1G z3 ?_
 iterate 3
  refine zT ?_
 refine oc1G c0 ?_
 refine zBA rfl rfl rfl rfl rfl Tryz.func118 rfl rfl [.pointer (some ⟨b,0,none⟩)] rfl ?_
 refine (zpA (H.out.pat.grow (Keep.refl NoB w2).drew)).mono ?_
 rintro e w3 ⟨A4,c4',rfl,hg4,ho4⟩
 refine ⟨_,rfl,fun _=>hg4,?_⟩
 simp only [Act.put,pB,pC,pD]
 refine zBA rfl rfl rfl rfl rfl Tryz.func64 rfl rfl [.agg #[.int .u64 d.session,.slice A4 d.sz.length c4',.int .u32 (d.sum:Nat)]] rfl ?_
 refine (zg d.session d.sum A4 c4' d.sz w3 (SliceR.of_own ho4) H.out.pat.ok.fit).mono ?_
 rintro e w4 ⟨rfl,hg5⟩
 refine ⟨_,rfl,fun _=>hg5,?_⟩
 simp only [Act.put,pB,pC,pD]
 refine zT ?_
 refine ord_p ?_
 refine zD ?_
 have hgd:=((Keep.refl NoB w2).drew.grow hg4).grow hg5
 replace H:=LH (H.out.grow hgd)
 replace HK:=LH (HK.out.grow hgd)
 replace HZ:=LH (Grow.heap hgd HZ.out)
 clear hg4 hg5 ho4 hgd c0 c1 c2 c3 c4 c5 c6 c7 c8 c9 c10 c11 c12 c13 c14 c15 c16 c17 c18 c19 c20 cf z0 z1 z2 z3 z4 z5 z6 zf
 obtain ⟨c0,c1,c2,c3,c4,c5,c6,c7,c8,c9,c10,c11,c12,c13,c14,c15,c16,c17,c18,c19,c20,cf⟩:=zH H.out.cell
 go_wp2
 have h2:=H.out.put (rc':={ rc with closed:=false,resumed:=false }) 19 (.bool false) rfl rfl rfl
 replace HZ:=LH ((h2.2.block _ (gE HZ.out).1 HGN.out).trans HZ.out)
 replace HK:=LH (HK.out.trans h2.2 (fun _ h=>.inl h))
 replace H:=LH h2.1
 clear h2 c0 c1 c2 c3 c4 c5 c6 c7 c8 c9 c10 c11 c12 c13 c14 c15 c16 c17 c18 c19 c20 cf
 generalize w4.setCell ⟨g,19,none⟩ (.bool false)=w5 at H HZ HK ⊢
 obtain ⟨c0,c1,c2,c3,c4,c5,c6,c7,c8,c9,c10,c11,c12,c13,c14,c15,c16,c17,c18,c19,c20,cf⟩:=zH H.out.cell
 obtain ⟨z0,z1,z2,z3,z4,z5,z6,zf⟩:=zC HZ.out
 rw [show ({ rc with closed:=false,resumed:=false }:RC).part=some ⟨b,0,none⟩ from H.out.part] at c0
 refine zE [0,1,2,3,5,6,4,7,8] [4,7,8] [3,6] [] rfl (by kernel_rfl) ?_
 iterate 3
  refine ord_p ?_
 refine oc1 c0 ?_
 refine ord_p ?_
 refine oc1 z2 ?_
 refine zG rfl rfl rfl rfl rfl Tryz.func117 rfl rfl [.pointer (some ⟨b,0,none⟩)] rfl ?_
 refine (zwA (H.out.pat.grow (Keep.refl NoB w5).drew)).mono ?_
 rintro e w6 ⟨A6,c6',rfl,hg6,ho6⟩
 refine ⟨_,rfl,fun _=>hg6,?_⟩
 simp only [Act.put,pB,pC,pD]
 refine zG rfl rfl rfl rfl rfl Tryz.func82 rfl rfl [.slice A6 d.known.length c6',.int .i64 i] rfl ?_
 refine (zhA A6 c6' d.known H.out.pat.ok.known i (by have:=H.out.pat.ok.few;omega) w6 (SliceR.of_own ho6)).mono ?_
 rintro e w7 ⟨rfl,rfl⟩
 refine ⟨_,rfl,fun _=>Keep.refl _ _,?_⟩
 simp only [Act.put,pB,pC,pD]
 rw [HGB.out]
 refine ord_s ?_
 refine zD ?_
 have hgd:=(Keep.refl NoB w5).drew.grow hg6
 replace H:=LH (H.out.grow hgd)
 replace HK:=LH (HK.out.grow hgd)
 replace HZ:=LH (Grow.heap hgd HZ.out)
 clear hg6 ho6 hgd c0 c1 c2 c3 c4 c5 c6 c7 c8 c9 c10 c11 c12 c13 c14 c15 c16 c17 c18 c19 c20 cf z0 z1 z2 z3 z4 z5 z6 zf
 obtain ⟨c0,c1,c2,c3,c4,c5,c6,c7,c8,c9,c10,c11,c12,c13,c14,c15,c16,c17,c18,c19,c20,cf⟩:=zH H.out.cell
 obtain ⟨z0,z1,z2,z3,z4,z5,z6,zf⟩:=zC HZ.out
 rw [show ({ rc with closed:=false,resumed:=false }:RC).part=some ⟨b,0,none⟩ from H.out.part] at c0
 go_wp2
 refine zE [0,1,2,3,4,5,6,7,8,9] [8] [3,5,7] [] rfl (by kernel_rfl) ?_
 iterate 3
  refine ord_p ?_
 refine oc1 c0 ?_
 refine ord_p ?_
 refine oc1 z2 ?_
 refine ord_p ?_
 refine oc1 z6 ?_
 refine zG rfl rfl rfl rfl rfl Tryz.func106 rfl rfl [.pointer (some ⟨b,0,none⟩),.int .i64 i,.slice A2 n2 c2'] rfl ?_
 refine (zAL (H.out.pat.grow (Keep.refl NoB w6).drew) i hi HGB.out A2 n2 c2' hl).mono ?_
 rintro e w8 ⟨rfl,hg8⟩
 refine ⟨_,rfl,fun _=>hg8,?_⟩
 simp only [Act.put,pB,pC,pD]
 refine ord_p ?_
 refine zD ?_
 have hgd:=(Keep.refl NoB w6).drew.grow hg8
 replace H:=LH (H.out.grow hgd)
 replace HK:=LH (HK.out.grow hgd)
 clear hg8 hgd c0 c1 c2 c3 c4 c5 c6 c7 c8 c9 c10 c11 c12 c13 c14 c15 c16 c17 c18 c19 c20 cf z0 z1 z2 z3 z4 z5 z6 zf
 go_wp2_with fail
 refine (zxE H.out.cell H.out.part H.out.pat hno).mono ?_
 rintro e w9 ⟨⟨v,rfl⟩,hg9⟩
 replace H:=LH (H.out.grow hg9)
 replace HK:=LH (HK.out.grow hg9)
 clear hg9
 obtain ⟨c0,c1,c2,c3,c4,c5,c6,c7,c8,c9,c10,c11,c12,c13,c14,c15,c16,c17,c18,c19,c20,cf⟩:=zH H.out.cell
 rw [show ({ rc with closed:=false,resumed:=false }:RC).phase=1 from hph] at c6
 go_wp2
 go_ret
 exact ⟨rfl,H.out,HK.out⟩
end Go.Proofs.YtfkcpaahdlkcdaaGreat

import Derived.Test.YtfkcpaahdlkcdaaGreatRRecvReads30
set_option linter.unusedSimpArgs false
set_option linter.unusedVariables false
set_option maxRecDepth 100000
set_option maxHeartbeats 16000000
namespace Go.Proofs.YtfkcpaahdlkcdaaGreat
open Go.RowKit
theorem zJH {g:Nat} {rc:RC} {w:World} (h:RCell g rc w) (session:Int) (sum:Nat) (ps:List (List Int)) (h4:ps.length≤4) (hph:rc.phase=1) (hpt:rc.part=none) (hof:rc.of=ps.length) (hses:rc.session=session) (hsum:rc.sum=sum) (i:Nat) (hi:i<ps.length) (hh:rc.h i=false) {G:Nat→Prop} (hH:Hear rc ps G w) (hgG:¬ G g) (A1:Option Addr) (c1':Nat) (hs:SliceR 1 (.slice A1 (ps[i]'hi).length c1') (ps[i]'hi).length (ints (ps[i]'hi)) w) (hsl:(ps[i]'hi).length≤4) (hsg:∀ w',Keep (fun k=>k=g) w w'→SliceR 1 (.slice A1 (ps[i]'hi).length c1') (ps[i]'hi).length (ints (ps[i]'hi)) w') (F:List Int) (hF:PagesOk ps F) (hb:((List.range ps.length).map (rc.setH i).h).contains false=false) (hq:8*F.sum≤rc.quota) (h01:0≤session∧session≤18446744073709551615) (hsm:sum<4294967296) {k:KS} {Gk:Nat→Prop} (hK:KAt rc.st k Gk w) (hgGk:¬ Gk g) (hkn:k.lo.n≤4096) (hgk:¬ KF rc.st k g) (hGk:∀ j,G j→¬ KF rc.st k j) :
    Calls Tryz.prog 109 #[.pointer (some ⟨g,0,none⟩),.agg #[.int .i64 1,.int .u64 session,.int .i64 i,.int .i64 ps.length,.int .u32 (sum:Nat),.slice A1 (ps[i]'hi).length c1',.slice none 0 0]] w fun e w'=>e=.returned (.slice none 0 0)∧∃ (rc':RC) (b:Nat) (p:PP) (Gp:Nat→Prop) (A:Option Addr) (c m:Nat),RCell g (rc'.begin ⟨b,0,none⟩ session sum) w'∧rc'.st=rc.st∧rc'.quota=rc.quota∧rc'.resumed=rc.resumed∧rc'.err=rc.err∧PAt b p ⟨session,F,sum,List.replicate F.sum.toNat 0,makeB (chunksN F)⟩ Gp w'∧KAt rc.st ((k.clear m).step A c) NoB w'∧Keep (fun j=>j=g∨KF rc.st k j) w w'∧w.heap.size≤b∧w.heap.size≤p.wb∧(∀ j,Gp j→w.heap.size≤j)∧∀ j,KF rc.st ((k.clear m).step A c) j→(KF rc.st k j∨w.heap.size≤j)∧j≠b∧j≠p.wb∧¬ Gp j:=by
 have hg0:=(Keep.refl NoB w).alloc (.cells #[.int .i64 1,.int .u64 session,.int .i64 i,.int .i64 ps.length,.int .u32 (sum:Nat),.slice A1 (ps[i]'hi).length c1',.slice none 0 0] 46)
 have HZ:=LH (heap_alloc_new w (.cells #[.int .i64 1,.int .u64 session,.int .i64 i,.int .i64 ps.length,.int .u32 (sum:Nat),.slice A1 (ps[i]'hi).length c1',.slice none 0 0] 46))
 have HS:=LH (hs.grow hg0)
 have H:=LH (h.grow hg0)
 have HLT:Hid (g<w.heap.size):=LH h.lt
 have HG:=LH hg0
 have HB:=LH hb
 clear hsg
 have HHH:=LH hh
 have HHE:=LH (hH.keep hg0 (fun _ _ h=>h))
 have HGG:=LH hgG
 subst hses
 subst hsum
 clear hH hgG hh
 have HF:=LH hF
 clear hF
 have HK:=LH (hK.grow hg0)
 have HGK:=LH (And.intro hgk hgGk)
 have HKS:=LH hK.small
 clear hK hgk hgGk
 have HKG:=LH hGk
 clear hGk
 have HSS:=LH (And.intro h01 hsm)
 clear h01 hsm
 have hwi:(i:Int)<4:=by omega
 have hi1:¬ ((ps.length:Int)≤i):=by omega
 clear h hg0 hs hb
 go_enter Tryz.func109,Tryz.ntmps109
 obtain ⟨z0,z1,z2,z3,z4,z5,z6,zf⟩:=zC HZ.out
 obtain ⟨c0,c1,c2,c3,c4,c5,c6,c7,c8,c9,c10,c11,c12,c13,c14,c15,c16,c17,c18,c19,c20,cf⟩:=zH H.out
 rw [hpt] at c0
 rw [hph] at c6
 go_wp2_with fail
 refine (zEB H.out 1 rc.session i ps.length rc.sum A1 none (ps[i]'hi).length c1' 0 0).mono ?_
 rintro e w1 ⟨rfl,hg⟩
 replace H:=LH (H.out.grow hg)
 replace HG:=LH (HG.out.grow hg)
 replace HZ:=LH (Grow.heap hg HZ.out)
 replace HS:=LH (HS.out.grow hg)
 replace HHE:=LH (HHE.out.keep hg (fun _ _ h=>h))
 replace HK:=LH (HK.out.grow hg)
 have hdd:decide (rc.session=rc.session∧rc.sum=rc.sum)=true:=by simp
 rw [hdd]
 clear hg hdd c0 c1 c2 c3 c4 c5 c6 c7 c8 c9 c10 c11 c12 c13 c14 c15 c16 c17 c18 c19 c20 cf z0 z1 z2 z3 z4 z5 z6 zf
 obtain ⟨z0,z1,z2,z3,z4,z5,z6,zf⟩:=zC HZ.out
 obtain ⟨c0,c1,c2,c3,c4,c5,c6,c7,c8,c9,c10,c11,c12,c13,c14,c15,c16,c17,c18,c19,c20,cf⟩:=zH H.out
 rw [hpt] at c0
 rw [hph] at c6
 rw [hof] at c10
 have ch:=H.out.h_cell i (by omega)
 rw [HHH.out] at ch
 go_wp2
 refine zE [0,1,2,3,4,5,6,7,8,9,10,11,12,13,14,15] [] [1,5,10,14] [] rfl (by kernel_rfl) ?_
 refine ord_p ?_
 refine oc1 z3 ?_
 iterate 3
  refine ord_p ?_
 refine oc1 c10 ?_
 iterate 2
  refine ord_p ?_
 iterate 2
  refine zT ?_
 refine oc1G z2 ?_
 iterate 3
  refine zT ?_
 refine oc1G ch ?_
 refine ord_p ?_
 refine zD ?_
 clear z0 z1 z2 z3 z4 z5 z6 zf c0 c1 c2 c3 c4 c5 c6 c7 c8 c9 c10 c11 c12 c13 c14 c15 c16 c17 c18 c19 c20 cf ch
 replace H:=LH ((show RCell g rc w1.drew from H.out))
 replace HG:=LH (HG.out.drew)
 replace HZ:=LH ((show w1.drew.heap[_]? = _ from HZ.out))
 replace HS:=LH (HS.out.grow (Keep.refl NoB w1).drew)
 replace HHE:=LH (HHE.out.keep (Keep.refl NoB w1).drew (fun _ _ h=>h))
 replace HK:=LH (HK.out.grow (Keep.refl NoB w1).drew)
 generalize w1.drew=w2 at H HG HZ HS HHE HK ⊢
 obtain ⟨z0,z1,z2,z3,z4,z5,z6,zf⟩:=zC HZ.out
 go_wp2
 have HGN:Hid (¬ w.heap.size=g):=LH (fun e=>by have:=HLT.out;omega)
 refine ze (fun k=>k=g) [0,1,2,3,4,5,6,7,9,10,13,14,8,11,12,15,16] [8,12,16] [2,5,7] [] rfl (by kernel_rfl) ?_
 iterate 2
  refine ord_p ?_
 refine oc1 z2 ?_ (s0:=HGN.out)
 iterate 2
  refine ord_p ?_
 refine oc1 z2 ?_ (s0:=HGN.out)
 refine ord_p ?_
 refine oc1 z5 ?_ (s0:=HGN.out)
 iterate 4
  refine ord_p ?_
 refine zG rfl rfl rfl rfl rfl Tryz.func178 rfl rfl [.slice A1 (ps[i]'hi).length c1'] rfl ?_
 refine (zEA _ (ps[i]'hi) w2.drew (HS.out.grow (Keep.refl NoB w2).drew) (by omega)).mono ?_
 rintro e w3 ⟨A5,c5,rfl,ho5,hg5⟩
 refine ⟨_,rfl,fun _=>hg5.mono (fun _ h=>h.elim),?_⟩
 simp only [Act.put,pB,pC,pD]
 have h3:RCell g rc w3:=H.out.grow ((Keep.refl NoB w2).drew.grow hg5)
 have ch:=h3.h_cell i (by omega)
 have cf:∀ o,w3.frozen? ⟨g,o,none⟩=false:=fun o=>zN o h3
 refine ord_p ?_
 refine zJ rfl rfl rfl rfl ?_ ?_ ?_ ?_
 rotate_left
 ·go_simp;with_reducible rfl
 ·exact fun _=>zV _ _ _ _
 have h4':=h3.put (d':=rc.setH i) (11+i) (.bool true) (RC.setH_cs _ i (by omega))
 have cz:=h4'.1.z_cell i (by omega)
 have cf2:∀ o,(w3.setCell ⟨g,11+i,none⟩ (.bool true)).frozen? ⟨g,o,none⟩=false:=fun o=>zN o h4'.1
 refine ord_p ?_
 refine zJ rfl rfl rfl rfl ?_ ?_ ?_ ?_
 rotate_left
 ·go_simp;with_reducible rfl
 ·exact fun _=>zV _ _ _ _
 have h5':=h4'.1.put (d':=(rc.setH i).setZ i ⟨A5,(ps[i]'hi).length,c5⟩) (15+i) (.slice A5 (ps[i]'hi).length c5) (RC.setZ_cs _ i (by omega) ⟨A5,(ps[i]'hi).length,c5⟩)
 refine zD ?_
 have hkg:=h4'.2.trans h5'.2 (fun _ h=>.inl h)
 have hgr3:=(Keep.refl NoB w2).drew.grow hg5
 have hw2:=HG.out.size
 have hdw:w2.drew.heap.size=w2.heap.size:=rfl
 have hng:∀ k,(Value.slice A5 (ps[i]'hi).length c5).ownBlock=some k→¬ k=g:=fun k hk e=>by have:=(ho5.lt k hk).1;have:=HLT.out;omega
 have HO5:=LH (zF ho5 hkg hng)
 have HO5s:Hid (∀ k,(Value.slice A5 (ps[i]'hi).length c5).ownBlock=some k→w.heap.size≤k):=LH (fun k hk=>by have:=(ho5.lt k hk).1;omega)
 replace HHE:=LH ((HHE.out.keep hgr3 (fun _ _ h=>h)).keep hkg (fun k hk e=>HGG.out (by rw [← e];exact hk)))
 replace HHE:=LH (HHE.out.more i hi h4 HO5.out)
 have HKG:=LH (((HG.out.grow hgr3).mono (T:=fun k=>k=g) (fun _ h=>h.elim)).trans hkg (fun _ h=>.inl h))
 replace HK:=LH ((HK.out.grow hgr3).keep hkg (fun j hj e=>HGK.out.1 (by rw [← e];exact hj)) (fun j hj e=>HGK.out.2 (by rw [← e];exact hj)))
 have HNZ:=LH (And.intro h5'.1 hkg)
 clear ho5 hg5 h3 ch cf h4' cz cf2 h5' hkg hgr3 hw2 hdw hng z0 z1 z2 z3 z4 z5 z6 zf HO5
 obtain ⟨w5,hw5⟩:∃ w5,((w3.setCell ⟨g,11+i,none⟩ (.bool true)).setCell ⟨g,15+i,none⟩ (.slice A5 (ps[i]'hi).length c5))=w5:=⟨_,rfl⟩
 rw [hw5] at HHE HKG HNZ HK ⊢
 replace H:=LH HNZ.out.1
 have HBS:Hid (((List.range ps.length).map ((rc.setH i).setZ i ⟨A5,(ps[i]'hi).length,c5⟩).h).contains false=false):=LH (by rw [RC.setZ_h];exact HB.out)
 have hrest:=RC.set_rest rc i (by omega) ⟨A5,(ps[i]'hi).length,c5⟩
 obtain ⟨rc2,hrc2⟩:∃ r,(rc.setH i).setZ i ⟨A5,(ps[i]'hi).length,c5⟩=r:=⟨_,rfl⟩
 rw [hrc2] at H HHE HBS hrest
 have HRST:=LH hrest
 have hof2:rc2.of=ps.length:=by rw [hrest];exact hof
 clear HNZ hw5 hrc2 hrest HB HZ HS HG
 obtain ⟨c0,c1,c2,c3,c4,c5,c6,c7,c8,c9,c10,c11,c12,c13,c14,c15,c16,c17,c18,c19,c20,cf⟩:=zH H.out
 rw [hof2] at c10
 go_wp2
 have hC:=zFA _ _ HBS.out (some ⟨g,11,none⟩) 4 w5.drew (by have:=(show RCell g rc2 w5.drew from H.out).heardR ps.length h4;rw [List.length_map,List.length_range];exact this) (by rw [List.length_map,List.length_range];omega)
 rw [List.length_map,List.length_range] at hC
 have HC:=LH hC
 clear hC
 have hpl:(ps.length:Int)≤4:=by omega
 refine zE [0,1,2,3,4,5,6,7,8] [8] [6] [] rfl (by kernel_rfl) ?_
 iterate 6
  refine ord_p ?_
 refine oc1 c10 ?_
 refine ord_p ?_
 refine zG rfl rfl rfl rfl rfl Tryz.func179 rfl rfl [.slice (some ⟨g,11,none⟩) ps.length 4,.bool false] rfl ?_
 refine HC.out.mono ?_
 rintro e w6 ⟨rfl,rfl⟩
 refine ⟨_,rfl,fun _=>Keep.refl _ _,?_⟩
 simp only [Act.put,pB,pC,pD]
 refine zD ?_
 clear HC c0 c1 c2 c3 c4 c5 c6 c7 c8 c9 c10 c11 c12 c13 c14 c15 c16 c17 c18 c19 c20 cf
 replace H:=LH ((show RCell g rc2 w5.drew from H.out))
 replace HHE:=LH (HHE.out.keep (Keep.refl NoB w5).drew (fun _ _ h=>h))
 replace HKG:=LH (HKG.out.drew)
 replace HK:=LH (HK.out.grow (Keep.refl NoB w5).drew)
 generalize w5.drew=w6 at H HHE HKG HK ⊢
 obtain ⟨c0,c1,c2,c3,c4,c5,c6,c7,c8,c9,c10,c11,c12,c13,c14,c15,c16,c17,c18,c19,c20,cf⟩:=zH H.out
 rw [hof2] at c10
 go_wp2
 have HKW:=LH HKG.out
 have HJ:=LH (zdB ps F HF.out (some ⟨g,15,none⟩) 4 w6.drew ((show RCell g rc2 w6.drew from H.out).pagesR (HHE.out.keep (Keep.refl NoB w6).drew (fun _ _ h=>h)) h4 HBS.out))
 refine zE [0,1,2,3,4,5,6,7,8,9,10,11,12,13] [8,12,13] [6] [] rfl (by kernel_rfl) ?_
 iterate 6
  refine ord_p ?_
 refine oc1 c10 ?_
 refine ord_p ?_
 refine zG rfl rfl rfl rfl rfl Tryz.func180 rfl rfl [.slice (some ⟨g,15,none⟩) ps.length 4] rfl ?_
 refine HJ.out.mono ?_
 rintro e w7 ⟨A7,c7',rfl,hg7,ho7⟩
 refine ⟨_,rfl,fun _=>hg7,?_⟩
 simp only [Act.put,pB,pC,pD]
 iterate 3
  refine ord_p ?_
 iterate 2
  refine ord_s ?_
 refine zD ?_
 have hgr7:=(Keep.refl NoB w6).drew.grow hg7
 replace H:=LH (H.out.grow hgr7)
 replace HKG:=LH (HKG.out.grow hgr7)
 replace HK:=LH (HK.out.grow hgr7)
 have HO7:=LH ho7
 have HKW7:=LH HKG.out
 have HO7s:Hid (w.heap.size≤w6.heap.size):=LH HKW.out.size
 clear HJ hg7 ho7 hgr7 HHE c0 c1 c2 c3 c4 c5 c6 c7 c8 c9 c10 c11 c12 c13 c14 c15 c16 c17 c18 c19 c20 cf
 obtain ⟨c0,c1,c2,c3,c4,c5,c6,c7,c8,c9,c10,c11,c12,c13,c14,c15,c16,c17,c18,c19,c20,cf⟩:=zH H.out
 go_wp2
 have hses2:rc2.session=rc.session:=by rw [HRST.out];try rfl
 have hsum2:rc2.sum=rc.sum:=by rw [HRST.out];try rfl
 have hquo2:rc2.quota=rc.quota:=by rw [HRST.out];try rfl
 have hst2:rc2.st=rc.st:=by rw [HRST.out];try rfl
 rw [hses2] at c8
 rw [hsum2] at c9
 rw [hquo2] at c4
 rw [hst2] at c5
 refine zE [0,1,2,3,4,5,6,7,8,9,10,11] [10,11] [3,8] [11] rfl (by kernel_rfl) ?_
 iterate 3
  refine ord_p ?_
 refine oc1 c8 ?_
 iterate 4
  refine ord_p ?_
 refine oc1 c9 ?_
 refine ord_p ?_
 refine zh rfl rfl rfl rfl ?_ ?_ ?_ ?_ ?_ ?_
 rotate_left 3
 ·go_simp;first | with_reducible rfl | (constructor <;> with_reducible rfl)
 ·simp only [Act.put,pB,pC,pD];rfl
 refine zJ rfl rfl rfl rfl ?_ ?_ (fun h=>absurd (by simp) h) ?_
 rotate_left
 ·go_simp;with_reducible rfl
 refine zD ?_
 have hga:=((Keep.refl NoB w7).alloc (.cells #[.int .u64 rc.session,.slice A7 F.length c7',.int .u32 (rc.sum:Nat)] 40)).drew
 have HM:=LH (show (w7.alloc (.cells #[.int .u64 rc.session,.slice A7 F.length c7',.int .u32 (rc.sum:Nat)] 40)).drew.heap[w7.heap.size]? = _ from heap_alloc_new w7 (.cells #[.int .u64 rc.session,.slice A7 F.length c7',.int .u32 (rc.sum:Nat)] 40))
 replace H:=LH (H.out.grow hga)
 replace HKG:=LH (HKG.out.grow hga)
 replace HO7:=LH (zF HO7.out hga (fun _ _ h=>h))
 replace HK:=LH (HK.out.grow hga)
 have hN7:w.heap.size≤w7.heap.size:=by have:=HKW7.out.size;exact this
 generalize hw8:(w7.alloc (.cells #[.int .u64 rc.session,.slice A7 F.length c7',.int .u32 (rc.sum:Nat)] 40)).drew=w8 at H HKG HO7 HM HK ⊢
 obtain ⟨N,hN⟩:∃ N,w7.heap.size=N:=⟨_,rfl⟩
 rw [hN] at HM hN7 ⊢
 clear hga hw8 hN c0 c1 c2 c3 c4 c5 c6 c7 c8 c9 c10 c11 c12 c13 c14 c15 c16 c17 c18 c19 c20 cf
 obtain ⟨c0,c1,c2,c3,c4,c5,c6,c7,c8,c9,c10,c11,c12,c13,c14,c15,c16,c17,c18,c19,c20,cf⟩:=zH H.out
 rw [hquo2] at c4
 rw [hst2] at c5
 obtain ⟨m0,m1,m2,mf⟩:=zI HM.out
 have hFP:=zM HF.out.fit
 have hF0:0≤F.sum:=zbA hFP.2.2.1
 have hw9:IntKind.i64.wrap (F.sum*8)=F.sum*8:=IntWalk.i64_in _ (by omega)
 have hgt:¬ (rc.quota<F.sum*8):=by omega
 have HMW:=LH (zTA rc.session rc.sum A7 c7' F w8.drew (SliceR.of_own (zF HO7.out (Keep.refl NoB w8).drew (fun _ _ h=>h))) HF.out.fit)
 clear hFP
 go_wp2
 refine zE [0,3,4,5,6,7,1,2,8] [1] [0,7] [] rfl (by kernel_rfl) ?_
 refine oc3 m0 m1 m2 ?_
 iterate 4
  refine ord_p ?_
 refine oc1 c4 ?_
 refine zG rfl rfl rfl rfl rfl Tryz.func102 rfl rfl [.agg #[.int .u64 rc.session,.slice A7 F.length c7',.int .u32 (rc.sum:Nat)]] rfl ?_
 refine HMW.out.mono ?_
 rintro e w9' ⟨rfl,hg9⟩
 refine ⟨_,rfl,fun _=>hg9,?_⟩
 simp only [Act.put,pB,pC,pD]
 iterate 2
  refine ord_p ?_
 refine zD ?_
 have hgr9:=(Keep.refl NoB w8).drew.grow hg9
 replace H:=LH (H.out.grow hgr9)
 replace HKG:=LH (HKG.out.grow hgr9)
 replace HO7:=LH (zF HO7.out hgr9 (fun _ _ h=>h))
 replace HM:=LH (Grow.heap hgr9 HM.out)
 replace HK:=LH (HK.out.grow hgr9)
 clear HMW hg9 hgr9 m0 m1 m2 mf c0 c1 c2 c3 c4 c5 c6 c7 c8 c9 c10 c11 c12 c13 c14 c15 c16 c17 c18 c19 c20 cf
 obtain ⟨c0,c1,c2,c3,c4,c5,c6,c7,c8,c9,c10,c11,c12,c13,c14,c15,c16,c17,c18,c19,c20,cf⟩:=zH H.out
 rw [hst2] at c5
 go_wp2_with fail
 refine (zJD HK.out hkn).mono ?_
 rintro e w10 ⟨⟨v,rfl⟩,A8,c8',m,hK,hk,hml,hlo⟩
 have hsz9:=HKG.out.size
 have hg0:g<w.heap.size:=HLT.out
 have hS1:∀ j,(j=rc.st∨(Value.slice k.lo.A k.lo.n k.lo.c).ownBlock=some j)→KF rc.st k j:=fun j hj=>hj.elim .inl (fun h=>.inr (.inr h))
 replace H:=LH (H.out.keep hk (fun e=>HGK.out.1 (hS1 _ e)))
 have hsz6:=HO7s.out
 have hdw6:w6.drew.heap.size=w6.heap.size:=rfl
 replace HO7:=LH (zF HO7.out hk (fun j hj e=>by have:=HKS.out j (hS1 _ e);have:=(HO7.out.lt j hj).1;omega))
 replace HM:=LH ((hk.block _ (gE HM.out).1 (fun e=>by have:=HKS.out _ (hS1 _ e);omega)).trans HM.out)
 replace HKG:=LH ((HKG.out.mono (T:=fun j=>j=g∨KF rc.st k j) (fun _ h=>.inl h)).trans hk (fun j hj=>.inl (.inr (hS1 j hj))))
 have hKFn:∀ j,KF rc.st ((k.clear m).step A8 c8') j→KF rc.st k j∨w.heap.size≤j:=fun j hj=>by
  rcases hj with e | e | e
  ·exact .inl (.inl e)
  ·right;rw [e];show w.heap.size≤m;omega
  ·exact (hlo j e).imp (fun h=>.inr (.inr h)) (fun h=>by omega)
 have HKF:=LH hKFn
 have HNW:=LH hK
 have hszT:w.heap.size≤w10.heap.size:=HKG.out.size
 clear hS1 hk hml hlo hKFn hK HK c0 c1 c2 c3 c4 c5 c6 c7 c8 c9 c10 c11 c12 c13 c14 c15 c16 c17 c18 c19 c20 cf
 obtain ⟨c0,c1,c2,c3,c4,c5,c6,c7,c8,c9,c10,c11,c12,c13,c14,c15,c16,c17,c18,c19,c20,cf⟩:=zH H.out
 obtain ⟨m0,m1,m2,mf⟩:=zI HM.out
 have hFn:Hid (F.sum=(F.sum.toNat:Int)):=LH (by omega)
 go_wp2_with fail
 refine (zKD H.out rc.session rc.sum HSS.out.1 HSS.out.2 A7 c7' F HF.out.fit F.sum.toNat hFn.out (SliceR.of_own HO7.out)).mono ?_
 rintro e w11 ⟨⟨v2,rfl⟩,b,p,Gp,hR,hkB,hP,hb,hpw,hGp⟩
 have hKn:=HNW.out.keep hkB (fun j hj e=>by rcases HKF.out j hj with h | h;exact HGK.out.1 (by rw [← e];exact h);omega) (fun j hj=>hj.elim)
 have HP:=LH (And.intro hR (And.intro hst2 (And.intro hquo2 (And.intro (show rc2.resumed=rc.resumed by rw [HRST.out];try rfl) (And.intro (show rc2.err=rc.err by rw [HRST.out];try rfl) (And.intro hP (And.intro hKn (And.intro (HKG.out.trans hkB (fun j hj=>.inl (.inl hj))) (And.intro (Nat.le_trans hszT hb) (And.intro (Nat.le_trans hszT hpw) (And.intro (fun j hj=>Nat.le_trans hszT (hGp j hj):∀ j,Gp j→w.heap.size≤j) (show ∀ j,KF rc.st ((k.clear m).step A8 c8') j→(KF rc.st k j∨w.heap.size≤j)∧j≠b∧j≠p.wb∧¬ Gp j from fun j hj=>⟨HKF.out j hj,by have:=HNW.out.small j hj;omega,by have:=HNW.out.small j hj;omega,fun e=>by have:=HNW.out.small j hj;have:=hGp j e;omega⟩))))))))))))
 clear hR hkB hP hb hpw hGp hKn m0 m1 m2 mf c0 c1 c2 c3 c4 c5 c6 c7 c8 c9 c10 c11 c12 c13 c14 c15 c16 c17 c18 c19 c20 cf
 go_wp2
 go_ret
 exact ⟨rfl,rc2,b,p,Gp,A8,c8',m,HP.out⟩
theorem zKH {g:Nat} {rc:RC} {w:World} (h:RCell g rc w) (session:Int) (sum:Nat) (ps:List (List Int)) (h4:ps.length≤4) (hph:rc.phase=0) (hpt:rc.part=none) (i:Nat) (hi:i<ps.length)   (A1:Option Addr) (c1':Nat) (hs:SliceR 1 (.slice A1 (ps[i]'hi).length c1') (ps[i]'hi).length (ints (ps[i]'hi)) w) (hsl:(ps[i]'hi).length≤4) (hsg:∀ w',Keep (fun k=>k=g) w w'→SliceR 1 (.slice A1 (ps[i]'hi).length c1') (ps[i]'hi).length (ints (ps[i]'hi)) w') (F:List Int) (hF:PagesOk ps F) (hb:((List.range ps.length).map ((rc.hearing ps.length session sum).setH i).h).contains false=false) (hq:8*F.sum≤rc.quota) (h01:0≤session∧session≤18446744073709551615) (hsm:sum<4294967296) {k:KS} {Gk:Nat→Prop} (hK:KAt rc.st k Gk w) (hgGk:¬ Gk g) (hkn:k.lo.n≤4096) (hgk:¬ KF rc.st k g)  :
    Calls Tryz.prog 109 #[.pointer (some ⟨g,0,none⟩),.agg #[.int .i64 1,.int .u64 session,.int .i64 i,.int .i64 ps.length,.int .u32 (sum:Nat),.slice A1 (ps[i]'hi).length c1',.slice none 0 0]] w fun e w'=>e=.returned (.slice none 0 0)∧∃ (rc':RC) (b:Nat) (p:PP) (Gp:Nat→Prop) (A:Option Addr) (c m:Nat),RCell g (rc'.begin ⟨b,0,none⟩ session sum) w'∧rc'.st=rc.st∧rc'.quota=rc.quota∧rc'.resumed=rc.resumed∧rc'.err=rc.err∧PAt b p ⟨session,F,sum,List.replicate F.sum.toNat 0,makeB (chunksN F)⟩ Gp w'∧KAt rc.st ((k.clear m).step A c) NoB w'∧Keep (fun j=>j=g∨KF rc.st k j) w w'∧w.heap.size≤b∧w.heap.size≤p.wb∧(∀ j,Gp j→w.heap.size≤j)∧∀ j,KF rc.st ((k.clear m).step A c) j→(KF rc.st k j∨w.heap.size≤j)∧j≠b∧j≠p.wb∧¬ Gp j:=by
 have hg0:=(Keep.refl NoB w).alloc (.cells #[.int .i64 1,.int .u64 session,.int .i64 i,.int .i64 ps.length,.int .u32 (sum:Nat),.slice A1 (ps[i]'hi).length c1',.slice none 0 0] 46)
 have HZ:=LH (heap_alloc_new w (.cells #[.int .i64 1,.int .u64 session,.int .i64 i,.int .i64 ps.length,.int .u32 (sum:Nat),.slice A1 (ps[i]'hi).length c1',.slice none 0 0] 46))
 have HS:=LH (hs.grow hg0)
 have H:=LH (h.grow hg0)
 have HLT:Hid (g<w.heap.size):=LH h.lt
 have HG:=LH hg0
 have HB:=LH hb
 have HSN:Hid (∀ w',Keep (fun k=>k=g) (w.alloc (.cells #[.int .i64 1,.int .u64 session,.int .i64 i,.int .i64 ps.length,.int .u32 (sum:Nat),.slice A1 (ps[i]'hi).length c1',.slice none 0 0] 46)) w'→SliceR 1 (.slice A1 (ps[i]'hi).length c1') (ps[i]'hi).length (ints (ps[i]'hi)) w'):=LH (fun w' hk=>hsg w' ((hg0.mono (T:=fun k=>k=g) (fun _ h=>h.elim)).trans hk (fun _ h=>.inl h)))
 clear hsg
 have HF:=LH hF
 clear hF
 have HK:=LH (hK.grow hg0)
 have HGK:=LH (And.intro hgk hgGk)
 have HKS:=LH hK.small
 clear hK hgk hgGk
 have HSS:=LH (And.intro h01 hsm)
 clear h01 hsm
 have hwi:(i:Int)<4:=by omega
 have hi1:¬ ((ps.length:Int)≤i):=by omega
 clear h hg0 hs hb
 go_enter Tryz.func109,Tryz.ntmps109
 obtain ⟨z0,z1,z2,z3,z4,z5,z6,zf⟩:=zC HZ.out
 obtain ⟨c0,c1,c2,c3,c4,c5,c6,c7,c8,c9,c10,c11,c12,c13,c14,c15,c16,c17,c18,c19,c20,cf⟩:=zH H.out
 rw [hpt] at c0
 rw [hph] at c6
 go_wp2
 have HGN:Hid (¬ w.heap.size=g):=LH (fun e=>by have:=HLT.out;omega)
 generalize w.alloc (.cells #[.int .i64 1,.int .u64 session,.int .i64 i,.int .i64 ps.length,.int .u32 (sum:Nat),.slice A1 (ps[i]'hi).length c1',.slice none 0 0] 46)=w1 at H HG HZ HS HSN HK ⊢
 clear c0 c1 c2 c3 c4 c5 c6 c7 c8 c9 c10 c11 c12 c13 c14 c15 c16 c17 c18 c19 c20 cf z0 z1 z2 z3 z4 z5 z6 zf
 obtain ⟨z0,z1,z2,z3,z4,z5,z6,zf⟩:=zC HZ.out
 obtain ⟨c0,c1,c2,c3,c4,c5,c6,c7,c8,c9,c10,c11,c12,c13,c14,c15,c16,c17,c18,c19,c20,cf⟩:=zH H.out
 refine ze (fun k=>k=g) [0,1,2,3,4,5,6,7,8,9,10,11,12,13,14,15,16,17,18,19,20,21,22] [13,16,19,22] [5,7,9] [] rfl (by kernel_rfl) ?_
 iterate 5
  refine ord_p ?_
 refine oc1 z1 ?_ (s0:=HGN.out)
 refine ord_p ?_
 refine oc1 z4 ?_ (s0:=HGN.out)
 refine ord_p ?_
 refine oc1 z3 ?_ (s0:=HGN.out)
 iterate 3
  refine ord_p ?_
 refine zJ rfl rfl rfl rfl ?_ ?_ ?_ ?_
 rotate_left
 ·go_simp;with_reducible rfl
 ·exact fun _=>zV _ _ _ _
 iterate 2
  refine ord_p ?_
 refine zJ rfl rfl rfl rfl ?_ ?_ ?_ ?_
 rotate_left
 ·go_simp;with_reducible rfl
 ·exact fun _=>zV _ _ _ _
 iterate 2
  refine ord_p ?_
 refine zJ rfl rfl rfl rfl ?_ ?_ ?_ ?_
 rotate_left
 ·go_simp;with_reducible rfl
 ·exact fun _=>zV _ _ _ _
 iterate 2
  refine ord_p ?_
 have hp1:=H.out.put (d':={ rc with phase:=1 }) 6 (.int .i64 1) rfl
 have hp2:=hp1.1.put (d':={ rc with phase:=1,session:=session }) 8 (.int .u64 session) rfl
 have hp3:=hp2.1.put (d':={ rc with phase:=1,session:=session,sum:=sum }) 9 (.int .u32 (sum:Nat)) rfl
 have hp4:=(show RCell g { rc with phase:=1,session:=session,sum:=sum } (((w1.setCell ⟨g,6,none⟩ (.int .i64 1)).setCell ⟨g,8,none⟩ (.int .u64 session)).setCell ⟨g,9,none⟩ (.int .u32 (sum:Nat))).drew from hp3.1)
 refine zsB rfl rfl rfl rfl _ _ _ rfl g 10 #[.int .i64 ps.length,qL,qL,qL,qL,qI,qI,qI,qI] rfl rfl _ _ (rc.hearing ps.length session sum).cs hp4 zXC (by simp [RC.cs]) rfl (by simp [Value.oneCell']) (fun _=>(Keep.refl (fun k=>k=g) _).setRow (.inl rfl) _) ?_
 have hr4:=setRow_heap _ g _ (rc.hearing ps.length session sum).cs _ _ hp4
 have hk4:=((((Keep.refl (fun k=>k=g) w1).trans hp1.2 (fun _ h=>.inl h)).trans hp2.2 (fun _ h=>.inl h)).trans hp3.2 (fun _ h=>.inl h)).drew.setRow (.inl rfl) (rc.hearing ps.length session sum).cs
 refine zD ?_
 replace HZ:=LH ((hk4.block _ (gE HZ.out).1 HGN.out).trans HZ.out)
 have hgs:Hid (∀ k,(Value.slice A1 (ps[i]'hi).length c1').ownBlock=some k→True):=LH (fun _ _=>trivial)
 replace HS:=LH (HSN.out _ hk4)
 replace HK:=LH (HK.out.keep hk4 (fun j hj e=>HGK.out.1 (by rw [← e];exact hj)) (fun j hj e=>HGK.out.2 (by rw [← e];exact hj)))
 replace HG:=LH ((HG.out.mono (T:=fun k=>k=g) (fun _ h=>h.elim)).trans hk4 (fun _ h=>.inl h))
 have HR4:=LH hr4
 clear hp1 hp2 hp3 hp4 hr4 hk4 hgs HSN H c0 c1 c2 c3 c4 c5 c6 c7 c8 c9 c10 c11 c12 c13 c14 c15 c16 c17 c18 c19 c20 cf z0 z1 z2 z3 z4 z5 z6 zf
 generalize World.setRow (((w1.setCell ⟨g,6,none⟩ (.int .i64 1)).setCell ⟨g,8,none⟩ (.int .u64 session)).setCell ⟨g,9,none⟩ (.int .u32 (sum:Nat))).drew g (rc.hearing ps.length session sum).cs=w9 at HR4 HG HZ HS HK ⊢
 have H:Hid (RCell g (rc.hearing ps.length session sum) w9):=LH HR4.out
 clear HR4
 obtain ⟨z0,z1,z2,z3,z4,z5,z6,zf⟩:=zC HZ.out
 obtain ⟨c0,c1,c2,c3,c4,c5,c6,c7,c8,c9,c10,c11,c12,c13,c14,c15,c16,c17,c18,c19,c20,cf⟩:=zH H.out
 rw [show (rc.hearing ps.length session sum).of=(ps.length:Int) from rfl] at c10
 have ch:=H.out.h_cell i (by omega)
 rw [show (rc.hearing ps.length session sum).h i=false from by unfold RC.h RC.hearing;split <;> rfl] at ch
 go_wp2
 refine zE [0,1,2,3,4,5,6,7,8,9,10,11,12,13,14,15] [] [1,5,10,14] [] rfl (by kernel_rfl) ?_
 refine ord_p ?_
 refine oc1 z3 ?_
 iterate 3
  refine ord_p ?_
 refine oc1 c10 ?_
 iterate 2
  refine ord_p ?_
 iterate 2
  refine zT ?_
 refine oc1G z2 ?_
 iterate 3
  refine zT ?_
 refine oc1G ch ?_
 refine ord_p ?_
 refine zD ?_
 clear z0 z1 z2 z3 z4 z5 z6 zf c0 c1 c2 c3 c4 c5 c6 c7 c8 c9 c10 c11 c12 c13 c14 c15 c16 c17 c18 c19 c20 cf ch
 replace H:=LH ((show RCell g (rc.hearing ps.length session sum) w9.drew from H.out))
 replace HG:=LH (HG.out.drew)
 replace HZ:=LH ((show w9.drew.heap[_]? = _ from HZ.out))
 replace HS:=LH (HS.out.grow (Keep.refl NoB w9).drew)
 replace HK:=LH (HK.out.grow (Keep.refl NoB w9).drew)
 generalize w9.drew=w2 at H HG HZ HS HK ⊢
 obtain ⟨z0,z1,z2,z3,z4,z5,z6,zf⟩:=zC HZ.out
 go_wp2
 refine ze (fun k=>k=g) [0,1,2,3,4,5,6,7,9,10,13,14,8,11,12,15,16] [8,12,16] [2,5,7] [] rfl (by kernel_rfl) ?_
 iterate 2
  refine ord_p ?_
 refine oc1 z2 ?_ (s0:=HGN.out)
 iterate 2
  refine ord_p ?_
 refine oc1 z2 ?_ (s0:=HGN.out)
 refine ord_p ?_
 refine oc1 z5 ?_ (s0:=HGN.out)
 iterate 4
  refine ord_p ?_
 refine zG rfl rfl rfl rfl rfl Tryz.func178 rfl rfl [.slice A1 (ps[i]'hi).length c1'] rfl ?_
 refine (zEA _ (ps[i]'hi) w2.drew (HS.out.grow (Keep.refl NoB w2).drew) (by omega)).mono ?_
 rintro e w3 ⟨A5,c5,rfl,ho5,hg5⟩
 refine ⟨_,rfl,fun _=>hg5.mono (fun _ h=>h.elim),?_⟩
 simp only [Act.put,pB,pC,pD]
 have h3:RCell g (rc.hearing ps.length session sum) w3:=H.out.grow ((Keep.refl NoB w2).drew.grow hg5)
 have ch:=h3.h_cell i (by omega)
 have cf:∀ o,w3.frozen? ⟨g,o,none⟩=false:=fun o=>zN o h3
 refine ord_p ?_
 refine zJ rfl rfl rfl rfl ?_ ?_ ?_ ?_
 rotate_left
 ·go_simp;with_reducible rfl
 ·exact fun _=>zV _ _ _ _
 have h4':=h3.put (d':=(rc.hearing ps.length session sum).setH i) (11+i) (.bool true) (RC.setH_cs _ i (by omega))
 have cz:=h4'.1.z_cell i (by omega)
 have cf2:∀ o,(w3.setCell ⟨g,11+i,none⟩ (.bool true)).frozen? ⟨g,o,none⟩=false:=fun o=>zN o h4'.1
 refine ord_p ?_
 refine zJ rfl rfl rfl rfl ?_ ?_ ?_ ?_
 rotate_left
 ·go_simp;with_reducible rfl
 ·exact fun _=>zV _ _ _ _
 have h5':=h4'.1.put (d':=((rc.hearing ps.length session sum).setH i).setZ i ⟨A5,(ps[i]'hi).length,c5⟩) (15+i) (.slice A5 (ps[i]'hi).length c5) (RC.setZ_cs _ i (by omega) ⟨A5,(ps[i]'hi).length,c5⟩)
 refine zD ?_
 have hkg:=h4'.2.trans h5'.2 (fun _ h=>.inl h)
 have hgr3:=(Keep.refl NoB w2).drew.grow hg5
 have hw2:=HG.out.size
 have hdw:w2.drew.heap.size=w2.heap.size:=rfl
 have hng:∀ k,(Value.slice A5 (ps[i]'hi).length c5).ownBlock=some k→¬ k=g:=fun k hk e=>by have:=(ho5.lt k hk).1;have:=HLT.out;omega
 have HO5:=LH (zF ho5 hkg hng)
 have HO5s:Hid (∀ k,(Value.slice A5 (ps[i]'hi).length c5).ownBlock=some k→w.heap.size≤k):=LH (fun k hk=>by have:=(ho5.lt k hk).1;omega)
 have HHE:=LH (Hear.none (rc:=(rc.hearing ps.length session sum)) (ps:=ps) (fun j=>by unfold RC.h RC.hearing;split <;> rfl) ((w3.setCell ⟨g,11+i,none⟩ (.bool true)).setCell ⟨g,15+i,none⟩ (.slice A5 (ps[i]'hi).length c5)))
 replace HHE:=LH (HHE.out.more i hi h4 HO5.out)
 have HKG:=LH ((HG.out.grow hgr3).trans hkg (fun _ h=>.inl h))
 replace HK:=LH ((HK.out.grow hgr3).keep hkg (fun j hj e=>HGK.out.1 (by rw [← e];exact hj)) (fun j hj e=>HGK.out.2 (by rw [← e];exact hj)))
 have HNZ:=LH (And.intro h5'.1 hkg)
 clear ho5 hg5 h3 ch cf h4' cz cf2 h5' hkg hgr3 hw2 hdw hng z0 z1 z2 z3 z4 z5 z6 zf HO5
 obtain ⟨w5,hw5⟩:∃ w5,((w3.setCell ⟨g,11+i,none⟩ (.bool true)).setCell ⟨g,15+i,none⟩ (.slice A5 (ps[i]'hi).length c5))=w5:=⟨_,rfl⟩
 rw [hw5] at HHE HKG HNZ HK ⊢
 replace H:=LH HNZ.out.1
 have HBS:Hid (((List.range ps.length).map (((rc.hearing ps.length session sum).setH i).setZ i ⟨A5,(ps[i]'hi).length,c5⟩).h).contains false=false):=LH (by rw [RC.setZ_h];exact HB.out)
 have hrest:=RC.set_rest (rc.hearing ps.length session sum) i (by omega) ⟨A5,(ps[i]'hi).length,c5⟩
 obtain ⟨rc2,hrc2⟩:∃ r,((rc.hearing ps.length session sum).setH i).setZ i ⟨A5,(ps[i]'hi).length,c5⟩=r:=⟨_,rfl⟩
 rw [hrc2] at H HHE HBS hrest
 have HRST:=LH hrest
 have hof2:rc2.of=ps.length:=by rw [hrest];rfl
 clear HNZ hw5 hrc2 hrest HB HZ HS HG
 obtain ⟨c0,c1,c2,c3,c4,c5,c6,c7,c8,c9,c10,c11,c12,c13,c14,c15,c16,c17,c18,c19,c20,cf⟩:=zH H.out
 rw [hof2] at c10
 go_wp2
 have hC:=zFA _ _ HBS.out (some ⟨g,11,none⟩) 4 w5.drew (by have:=(show RCell g rc2 w5.drew from H.out).heardR ps.length h4;rw [List.length_map,List.length_range];exact this) (by rw [List.length_map,List.length_range];omega)
 rw [List.length_map,List.length_range] at hC
 have HC:=LH hC
 clear hC
 have hpl:(ps.length:Int)≤4:=by omega
 refine zE [0,1,2,3,4,5,6,7,8] [8] [6] [] rfl (by kernel_rfl) ?_
 iterate 6
  refine ord_p ?_
 refine oc1 c10 ?_
 refine ord_p ?_
 refine zG rfl rfl rfl rfl rfl Tryz.func179 rfl rfl [.slice (some ⟨g,11,none⟩) ps.length 4,.bool false] rfl ?_
 refine HC.out.mono ?_
 rintro e w6 ⟨rfl,rfl⟩
 refine ⟨_,rfl,fun _=>Keep.refl _ _,?_⟩
 simp only [Act.put,pB,pC,pD]
 refine zD ?_
 clear HC c0 c1 c2 c3 c4 c5 c6 c7 c8 c9 c10 c11 c12 c13 c14 c15 c16 c17 c18 c19 c20 cf
 replace H:=LH ((show RCell g rc2 w5.drew from H.out))
 replace HHE:=LH (HHE.out.keep (Keep.refl NoB w5).drew (fun _ _ h=>h))
 replace HKG:=LH (HKG.out.drew)
 replace HK:=LH (HK.out.grow (Keep.refl NoB w5).drew)
 generalize w5.drew=w6 at H HHE HKG HK ⊢
 obtain ⟨c0,c1,c2,c3,c4,c5,c6,c7,c8,c9,c10,c11,c12,c13,c14,c15,c16,c17,c18,c19,c20,cf⟩:=zH H.out
 rw [hof2] at c10
 go_wp2
 have HKW:=LH HKG.out
 have HJ:=LH (zdB ps F HF.out (some ⟨g,15,none⟩) 4 w6.drew ((show RCell g rc2 w6.drew from H.out).pagesR (HHE.out.keep (Keep.refl NoB w6).drew (fun _ _ h=>h)) h4 HBS.out))
 refine zE [0,1,2,3,4,5,6,7,8,9,10,11,12,13] [8,12,13] [6] [] rfl (by kernel_rfl) ?_
 iterate 6
  refine ord_p ?_
 refine oc1 c10 ?_
 refine ord_p ?_
 refine zG rfl rfl rfl rfl rfl Tryz.func180 rfl rfl [.slice (some ⟨g,15,none⟩) ps.length 4] rfl ?_
 refine HJ.out.mono ?_
 rintro e w7 ⟨A7,c7',rfl,hg7,ho7⟩
 refine ⟨_,rfl,fun _=>hg7,?_⟩
 simp only [Act.put,pB,pC,pD]
 iterate 3
  refine ord_p ?_
 iterate 2
  refine ord_s ?_
 refine zD ?_
 have hgr7:=(Keep.refl NoB w6).drew.grow hg7
 replace H:=LH (H.out.grow hgr7)
 replace HKG:=LH (HKG.out.grow hgr7)
 replace HK:=LH (HK.out.grow hgr7)
 have HO7:=LH ho7
 have HKW7:=LH HKG.out
 have HO7s:Hid (w.heap.size≤w6.heap.size):=LH HKW.out.size
 clear HJ hg7 ho7 hgr7 HHE c0 c1 c2 c3 c4 c5 c6 c7 c8 c9 c10 c11 c12 c13 c14 c15 c16 c17 c18 c19 c20 cf
 obtain ⟨c0,c1,c2,c3,c4,c5,c6,c7,c8,c9,c10,c11,c12,c13,c14,c15,c16,c17,c18,c19,c20,cf⟩:=zH H.out
 go_wp2
 have hses2:rc2.session=session:=by rw [HRST.out];try rfl
 have hsum2:rc2.sum=sum:=by rw [HRST.out];try rfl
 have hquo2:rc2.quota=rc.quota:=by rw [HRST.out];try rfl
 have hst2:rc2.st=rc.st:=by rw [HRST.out];try rfl
 rw [hses2] at c8
 rw [hsum2] at c9
 rw [hquo2] at c4
 rw [hst2] at c5
 refine zE [0,1,2,3,4,5,6,7,8,9,10,11] [10,11] [3,8] [11] rfl (by kernel_rfl) ?_
 iterate 3
  refine ord_p ?_
 refine oc1 c8 ?_
 iterate 4
  refine ord_p ?_
 refine oc1 c9 ?_
 refine ord_p ?_
 refine zh rfl rfl rfl rfl ?_ ?_ ?_ ?_ ?_ ?_
 rotate_left 3
 ·go_simp;first | with_reducible rfl | (constructor <;> with_reducible rfl)
 ·simp only [Act.put,pB,pC,pD];rfl
 refine zJ rfl rfl rfl rfl ?_ ?_ (fun h=>absurd (by simp) h) ?_
 rotate_left
 ·go_simp;with_reducible rfl
 refine zD ?_
 have hga:=((Keep.refl NoB w7).alloc (.cells #[.int .u64 session,.slice A7 F.length c7',.int .u32 (sum:Nat)] 40)).drew
 have HM:=LH (show (w7.alloc (.cells #[.int .u64 session,.slice A7 F.length c7',.int .u32 (sum:Nat)] 40)).drew.heap[w7.heap.size]? = _ from heap_alloc_new w7 (.cells #[.int .u64 session,.slice A7 F.length c7',.int .u32 (sum:Nat)] 40))
 replace H:=LH (H.out.grow hga)
 replace HKG:=LH (HKG.out.grow hga)
 replace HO7:=LH (zF HO7.out hga (fun _ _ h=>h))
 replace HK:=LH (HK.out.grow hga)
 have hN7:w.heap.size≤w7.heap.size:=by have:=HKW7.out.size;exact this
 generalize hw8:(w7.alloc (.cells #[.int .u64 session,.slice A7 F.length c7',.int .u32 (sum:Nat)] 40)).drew=w8 at H HKG HO7 HM HK ⊢
 obtain ⟨N,hN⟩:∃ N,w7.heap.size=N:=⟨_,rfl⟩
 rw [hN] at HM hN7 ⊢
 clear hga hw8 hN c0 c1 c2 c3 c4 c5 c6 c7 c8 c9 c10 c11 c12 c13 c14 c15 c16 c17 c18 c19 c20 cf
 obtain ⟨c0,c1,c2,c3,c4,c5,c6,c7,c8,c9,c10,c11,c12,c13,c14,c15,c16,c17,c18,c19,c20,cf⟩:=zH H.out
 rw [hquo2] at c4
 rw [hst2] at c5
 obtain ⟨m0,m1,m2,mf⟩:=zI HM.out
 have hFP:=zM HF.out.fit
 have hF0:0≤F.sum:=zbA hFP.2.2.1
 have hw9:IntKind.i64.wrap (F.sum*8)=F.sum*8:=IntWalk.i64_in _ (by omega)
 have hgt:¬ (rc.quota<F.sum*8):=by omega
 have HMW:=LH (zTA session sum A7 c7' F w8.drew (SliceR.of_own (zF HO7.out (Keep.refl NoB w8).drew (fun _ _ h=>h))) HF.out.fit)
 clear hFP
 go_wp2
 refine zE [0,3,4,5,6,7,1,2,8] [1] [0,7] [] rfl (by kernel_rfl) ?_
 refine oc3 m0 m1 m2 ?_
 iterate 4
  refine ord_p ?_
 refine oc1 c4 ?_
 refine zG rfl rfl rfl rfl rfl Tryz.func102 rfl rfl [.agg #[.int .u64 session,.slice A7 F.length c7',.int .u32 (sum:Nat)]] rfl ?_
 refine HMW.out.mono ?_
 rintro e w9' ⟨rfl,hg9⟩
 refine ⟨_,rfl,fun _=>hg9,?_⟩
 simp only [Act.put,pB,pC,pD]
 iterate 2
  refine ord_p ?_
 refine zD ?_
 have hgr9:=(Keep.refl NoB w8).drew.grow hg9
 replace H:=LH (H.out.grow hgr9)
 replace HKG:=LH (HKG.out.grow hgr9)
 replace HO7:=LH (zF HO7.out hgr9 (fun _ _ h=>h))
 replace HM:=LH (Grow.heap hgr9 HM.out)
 replace HK:=LH (HK.out.grow hgr9)
 clear HMW hg9 hgr9 m0 m1 m2 mf c0 c1 c2 c3 c4 c5 c6 c7 c8 c9 c10 c11 c12 c13 c14 c15 c16 c17 c18 c19 c20 cf
 obtain ⟨c0,c1,c2,c3,c4,c5,c6,c7,c8,c9,c10,c11,c12,c13,c14,c15,c16,c17,c18,c19,c20,cf⟩:=zH H.out
 rw [hst2] at c5
 go_wp2_with fail
 refine (zJD HK.out hkn).mono ?_
 rintro e w10 ⟨⟨v,rfl⟩,A8,c8',m,hK,hk,hml,hlo⟩
 have hsz9:=HKG.out.size
 have hg0:g<w.heap.size:=HLT.out
 have hS1:∀ j,(j=rc.st∨(Value.slice k.lo.A k.lo.n k.lo.c).ownBlock=some j)→KF rc.st k j:=fun j hj=>hj.elim .inl (fun h=>.inr (.inr h))
 replace H:=LH (H.out.keep hk (fun e=>HGK.out.1 (hS1 _ e)))
 have hsz6:=HO7s.out
 have hdw6:w6.drew.heap.size=w6.heap.size:=rfl
 replace HO7:=LH (zF HO7.out hk (fun j hj e=>by have:=HKS.out j (hS1 _ e);have:=(HO7.out.lt j hj).1;omega))
 replace HM:=LH ((hk.block _ (gE HM.out).1 (fun e=>by have:=HKS.out _ (hS1 _ e);omega)).trans HM.out)
 replace HKG:=LH ((HKG.out.mono (T:=fun j=>j=g∨KF rc.st k j) (fun _ h=>.inl h)).trans hk (fun j hj=>.inl (.inr (hS1 j hj))))
 have hKFn:∀ j,KF rc.st ((k.clear m).step A8 c8') j→KF rc.st k j∨w.heap.size≤j:=fun j hj=>by
  rcases hj with e | e | e
  ·exact .inl (.inl e)
  ·right;rw [e];show w.heap.size≤m;omega
  ·exact (hlo j e).imp (fun h=>.inr (.inr h)) (fun h=>by omega)
 have HKF:=LH hKFn
 have HNW:=LH hK
 have hszT:w.heap.size≤w10.heap.size:=HKG.out.size
 clear hS1 hk hml hlo hKFn hK HK c0 c1 c2 c3 c4 c5 c6 c7 c8 c9 c10 c11 c12 c13 c14 c15 c16 c17 c18 c19 c20 cf
 obtain ⟨c0,c1,c2,c3,c4,c5,c6,c7,c8,c9,c10,c11,c12,c13,c14,c15,c16,c17,c18,c19,c20,cf⟩:=zH H.out
 obtain ⟨m0,m1,m2,mf⟩:=zI HM.out
 have hFn:Hid (F.sum=(F.sum.toNat:Int)):=LH (by omega)
 go_wp2_with fail
 refine (zKD H.out session sum HSS.out.1 HSS.out.2 A7 c7' F HF.out.fit F.sum.toNat hFn.out (SliceR.of_own HO7.out)).mono ?_
 rintro e w11 ⟨⟨v2,rfl⟩,b,p,Gp,hR,hkB,hP,hb,hpw,hGp⟩
 have hKn:=HNW.out.keep hkB (fun j hj e=>by rcases HKF.out j hj with h | h;exact HGK.out.1 (by rw [← e];exact h);omega) (fun j hj=>hj.elim)
 have HP:=LH (And.intro hR (And.intro hst2 (And.intro hquo2 (And.intro (show rc2.resumed=rc.resumed by rw [HRST.out];try rfl) (And.intro (show rc2.err=rc.err by rw [HRST.out];try rfl) (And.intro hP (And.intro hKn (And.intro (HKG.out.trans hkB (fun j hj=>.inl (.inl hj))) (And.intro (Nat.le_trans hszT hb) (And.intro (Nat.le_trans hszT hpw) (And.intro (fun j hj=>Nat.le_trans hszT (hGp j hj):∀ j,Gp j→w.heap.size≤j) (show ∀ j,KF rc.st ((k.clear m).step A8 c8') j→(KF rc.st k j∨w.heap.size≤j)∧j≠b∧j≠p.wb∧¬ Gp j from fun j hj=>⟨HKF.out j hj,by have:=HNW.out.small j hj;omega,by have:=HNW.out.small j hj;omega,fun e=>by have:=HNW.out.small j hj;have:=hGp j e;omega⟩))))))))))))
 clear hR hkB hP hb hpw hGp hKn m0 m1 m2 mf c0 c1 c2 c3 c4 c5 c6 c7 c8 c9 c10 c11 c12 c13 c14 c15 c16 c17 c18 c19 c20 cf
 go_wp2
 go_ret
 exact ⟨rfl,rc2,b,p,Gp,A8,c8',m,HP.out⟩
theorem zOH (A:Option Addr) (c:Nat) (l:List Int) (w:World) (h:SliceR 1 (.slice A l.length c) l.length (ints l) w) (hnn:∀ x∈l,0≤x∧x≤100000) (hl:l.length≤100000) (hf:fitsB l=false) :
    Calls Tryz.prog 144 #[.slice A l.length c] w fun e w'=>e=.returned (.bool false)∧w=w':=by
 have H:=LH h
 have HN:=LH hnn
 have HF:=LH hf
 clear h hnn hf
 by_cases h1:((l.length:Nat):Int)<1
 ·go_enter Tryz.func144,Tryz.ntmps144
  go_wp2
  go_ret
  exact ⟨rfl,rfl⟩
 by_cases h2:(16:Int)<((l.length:Nat):Int)
 ·go_enter Tryz.func144,Tryz.ntmps144
  go_wp2
  go_ret
  exact ⟨rfl,rfl⟩
 obtain ⟨ad,rfl,q0⟩:=SliceR.int_at (k:=.i64) H.out 0 (by omega)
 have q0':w.cell? ad=some (.int .i64 l[0]):=by simpa [Addr.add] using q0
 clear q0
 by_cases hx:l[0]<1
 ·go_enter Tryz.func144,Tryz.ntmps144
  go_wp2
  go_ret
  exact ⟨rfl,rfl⟩
 have HS:Hid (4096<l.sum):=LH (by
  have hf:=HF.out
  unfold fitsB at hf
  rw [decide_eq_false_iff_not] at hf
  rcases (show 4096<l.sum∨l.sum≤4096 by omega) with h | h
  ·exact h
  ·refine absurd ⟨by omega,by omega,?_,fun x hx=>(HN.out x hx).1,h⟩ hf
   cases hl2:l with
   | nil=>rw [hl2] at h1;simp at h1
   | cons x r =>
    simp only [hl2,List.getElem_cons_zero] at hx
    simp
    omega)
 go_enter Tryz.func144,Tryz.ntmps144
 go_wp2
 clear q0' hx
 go_loopw [3,4] (fun vn v wr=>wr=w∧∃ (k:Nat) (s:Int),k≤l.length∧v=.int .i64 k∧vn=.int .i64 s∧Hid (s=(l.take k).sum)∧0≤s∧s≤4096) (fun _ v _=>l.length-(intOf v).toNat)
 case atStart=>exact ⟨rfl,0,0,by omega,rfl,rfl,LH (by simp),by omega,by omega⟩
 case round =>
  obtain ⟨rfl,k,s,hk,rfl,rfl,HT,hs0,hs1⟩:=hrel
  by_cases hlt:k<l.length
  ·obtain ⟨ad2,e,q1⟩:=SliceR.int_at (k:=.i64) H.out k hlt
   injection e with e
   subst e
   have hw:IntKind.i64.wrap ((k:Int)+1)=(k:Int)+1:=IntWalk.i64_in _ (by omega)
   have hlt':(k:Int)<l.length:=by omega
   have hsu:=zw hlt
   have hn0:0≤l[k]:=(HN.out _ (List.getElem_mem hlt)).1
   have hn1:l[k]≤100000:=(HN.out _ (List.getElem_mem hlt)).2
   have hs9:=HT.out
   have hw2:IntKind.i64.wrap (4096-s)=4096-s:=IntWalk.i64_in _ (by omega)
   have hw3:IntKind.i64.wrap (s+l[k])=s+l[k]:=IntWalk.i64_in _ (by omega)
   have hb1:¬ (l[k]<0):=by omega
   have HR:Hid (s+l[k]=(l.take (k+1)).sum):=LH (by omega)
   clear hsu hs9
   by_cases hb2:4096-s<l[k]
   ·go_wp2
    go_ret
    exact ⟨rfl,rfl⟩
   ·have HR2:Hid (0≤s+l[k]∧s+l[k]≤4096):=LH ⟨by omega,by omega⟩
    go_wp2
    go_roundw
    case rel=>exact ⟨trivial,k+1,s+l[k],by omega,by go_num,rfl,HR,HR2.out.1,HR2.out.2⟩
    case measure=>simp [intOf];omega
  ·obtain rfl:k=l.length:=by omega
   have h3:=HT.out
   have h4:=HS.out
   rw [List.take_length] at h3
   omega
theorem zWG (a:List (List Int)) (ho:OkA a) (A:Option Addr) (c:Nat) (w:World) (h:RowsR .u64 a (.slice A a.length c) w) (hf:fitsB (szs a)=false) :
    Calls Tryz.prog 69 #[.slice A a.length c] w fun e w'=>e=.returned (.bool false)∧Grow w w':=by
 have hl:=ho.segs
 have HS:=LH (zvA a A c w h (by omega))
 have HF:=LH hf
 have HB:Hid (∀ x∈szs a,0≤x∧x≤100000):=LH (fun x hx=>by
  obtain ⟨s,hs,rfl⟩:=List.mem_map.1 hx
  have:=ho.words s hs
  omega)
 have HL:Hid ((szs a).length≤100000):=LH (by rw [zo];exact hl)
 clear h hf hl ho
 go_enter Tryz.func69,Tryz.ntmps69
 go_wp2_with fail
 refine HS.out.mono ?_
 rintro e w1 ⟨A1,c1,rfl,hg,ho⟩
 have HO:=LH (SliceR.of_own ho)
 have HG:=LH hg
 clear hg ho
 go_wp2_with fail
 refine (zOH A1 c1 (szs a) w1 HO.out HB.out HL.out HF.out).mono ?_
 rintro e w2 ⟨rfl,rfl⟩
 go_wp2
 go_ret
 exact ⟨rfl,HG.out⟩
theorem zhC (session sum:Int) (l:List Int) (A:Option Addr) (c:Nat) (w:World) (h:SliceR 1 (.slice A l.length c) l.length (ints l) w) (hf:fitsB l=true) :
    Calls Tryz.prog 21 #[.agg #[.int .u64 session,.slice A l.length c,.int .u32 sum]] w fun e w'=>e=.returned (.int .i64 (pagesN l:Nat))∧Grow w w':=by
 have hga:=(Keep.refl NoB w).alloc (.cells #[.int .u64 session,.slice A l.length c,.int .u32 sum] 40)
 have HG:=LH hga
 have HH:=LH (h.grow hga)
 have HC:=LH (heap_alloc_new w (.cells #[.int .u64 session,.slice A l.length c,.int .u32 sum] 40))
 have HF:=LH hf
 obtain ⟨m0,m1,m2,mf⟩:=zI HC.out
 have hl:=(zM hf).2.1
 have hw3:IntKind.i64.wrap ((l.length:Int)+3)=(l.length:Int)+3:=IntWalk.i64_in _ (by omega)
 have h30:0≤(l.length:Int)+3:=by omega
 have hw4:IntKind.i64.wrap (((l.length:Int)+3)/4)=((l.length:Int)+3)/4:=IntWalk.i64_in _ (by omega)
 clear h hf hga
 go_enter Tryz.func21,Tryz.ntmps21
 go_wp2_with fail
 refine (zED session sum l A c _ HH.out HF.out).mono ?_
 rintro e w1 ⟨rfl,hg⟩
 replace HG:=LH (HG.out.grow hg)
 replace HC:=LH (Grow.heap hg HC.out)
 clear hg m0 m1 m2 mf
 obtain ⟨m0,m1,m2,mf⟩:=zI HC.out
 go_wp2
 go_ret
 refine ⟨?_,HG.out⟩
 unfold pagesN
 congr 2
 try omega
theorem KMap.has {D:DataW Unit} {f:Nat→Option Ck} (h:∀ k,okI k→∀ z,D.atKey (.int .i64 k) z=atF f k z) {i:Nat} (hi:i<512):Maps.has D (.int .i64 i)=(f i).isSome:=by
 have hok:okI (i:Int):=zzE hi
 have h0:(0:Int)≤i:=by omega
 cases hf:f i with
 | none=>exact Maps.has_false_of_atKey (fun z=>by rw [h _ hok];unfold atF;rw [if_pos h0,Int.toNat_natCast,hf])
 | some x=>exact Maps.has_true_of_atKey (y:=x.d) (fun z=>by rw [h _ hok];unfold atF;rw [if_pos h0,Int.toNat_natCast,hf])
end Go.Proofs.YtfkcpaahdlkcdaaGreat

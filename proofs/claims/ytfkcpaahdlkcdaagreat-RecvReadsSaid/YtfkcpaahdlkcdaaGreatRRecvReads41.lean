import Derived.Test.YtfkcpaahdlkcdaaGreatRRecvReads40
set_option linter.unusedSimpArgs false
set_option linter.unusedVariables false
set_option maxRecDepth 100000
set_option maxHeartbeats 16000000
namespace Go.Proofs.YtfkcpaahdlkcdaaGreat
open Go.RowKit
theorem RvOut.sack {kd:Option Int} {w0 w:World} {v:Value} (h:RvOut kd w0 v w) (hk:kd=none∨kd=some 3):v=.slice none 0 0∨∃ b,v=.slice (some ⟨b,0,none⟩) 1 1∧w.cell? ⟨b,0,none⟩=some (.int .i64 3):=by
 rcases hk with rfl | rfl
 ·exact .inl h
 ·obtain ⟨b,s,i,m,rfl,h1,_⟩:=h
  exact .inr ⟨b,rfl,World.news_of_block h1 0 _ rfl⟩
theorem zJK:E99 22:=⟨by decide,by decide⟩
theorem zzL (sz:List Int) {wd:Int→Int→Int×Int} (h:∀ s x,E99 (wd s x).2) (o:Ob) (k:Int):E99 (stepP sz wd o k).2:=by
 unfold stepP
 repeat' split
 all_goals first | exact e99_0 | exact zuB | exact zNE | exact zND _ h _ _
theorem goP_e (sz:List Int) {wd:Int→Int→Int×Int} (h:∀ s x,E99 (wd s x).2):∀ (st:List Int) (o:Ob) (left:Int),E99 (goP sz wd st o left).2
 | [],o,left=>by
  simp only [goP,errP]
  split
  ·exact zJK
  ·exact e99_0
 | k :: ks,o,left=>by
  simp only [goP]
  split
  ·exact zJK
  split
  ·exact goP_e sz h ks _ _
  ·exact zzL sz h o k
theorem zMM {wd:Int→Int→Int×Int} (h:∀ s x,E99 (wd s x).2) (o:Ob) (at_:Int):E99 (endP wd o at_).2:=by
 have hw:E99 (wordP wd o at_).2:=by
  unfold wordP
  repeat' split
  all_goals first | exact e99_0 | exact zuB | exact zNE | exact h _ _
 unfold endP
 repeat' split
 ·exact e99_0
 ·exact e99_0
 ·exact hw
theorem zAM (a:List (List Int)) (sz st:List Int) (at_ cost:Int):E99 (walkP sz (wordA a) st at_ cost).2:=by
 unfold walkP
 repeat' split
 ·exact zMM (zWD a) _ _
 ·exact goP_e sz (zWD a) _ _ _
 ·exact zND sz (zWD a) _ _
theorem recvReads_calls (session:Int) (A:Option Addr) (c:Nat) (l:List Int) (A2:Option Addr) (c2:Nat) (l2:List Int) (k j at_:Int) (An:Option Addr) (cn:Nat) (n:List Int) (W:World) (h:SliceR 1 (.slice A l.length c) l.length (u8s l) W) (hu:okU l) (h2:SliceR 1 (.slice A2 l2.length c2) l2.length (u8s l2) W) (hu2:okU l2) (hs0:0≤session) (hs1:session≤18446744073709551615) (hk:0≤k∧k≤255) (hj:0≤j∧j≤255) (hat:0≤at_∧at_≤255) (hn:SliceR 1 (.slice An n.length cn) n.length (ints n) W) :
    Calls Tryz.prog 8 #[.int .u64 session,.slice A l.length c,.slice A2 l2.length c2,.int .u8 k,.int .u8 j,.int .u8 at_,.slice An n.length cn] W fun e w'=>e=.returned (.bool true)∧Grow W w':=by
 by_cases h80:80<l.length
 ·have h8:(80:Int)<((l.length:Nat):Int):=by omega
  clear h hu h2 hu2 hk hj hat hn
  go_enter Tryz.func8,Tryz.ntmps8
  go_wp2_with fail
  refine (zxA _).mono ?_
  rintro e wz ⟨rfl,hg⟩
  have HGZ:=LH (hg)
  clear hg
  go_wp2
  go_ret
  exact ⟨rfl,HGZ.out⟩
 by_cases h60:60<n.length
 ·have h8:¬ (80:Int)<((l.length:Nat):Int):=by omega
  have h6:(60:Int)<((n.length:Nat):Int):=by omega
  clear h hu h2 hu2 hk hj hat hn
  go_enter Tryz.func8,Tryz.ntmps8
  go_wp2_with fail
  refine (zxA _).mono ?_
  rintro e wz ⟨rfl,hg⟩
  have HGZ:=LH (hg)
  clear hg
  go_wp2
  go_ret
  exact ⟨rfl,HGZ.out⟩
 have h8:¬ (80:Int)<((l.length:Nat):Int):=by omega
 have h6:¬ (60:Int)<((n.length:Nat):Int):=by omega
 have HBT:=LH (zfJ l A c k W h (by omega) hu hk.1 hk.2)
 have HN:=LH hn
 have HL2:=LH (And.intro h2 hu2)
 obtain ⟨hk0,hk1⟩:=hk
 obtain ⟨hj0,hj1⟩:=hj
 obtain ⟨ha0,ha1⟩:=hat
 have HS01:=LH (And.intro hs0 hs1)
 clear h hu h2 hu2 hs0 hs1 hn h80
 go_enter Tryz.func8,Tryz.ntmps8
 go_wp2_with fail
 refine HBT.out.mono ?_
 rintro e w1 ⟨a,A1,c1,rfl,hg,hoa,hfit,hrows⟩
 have HG:=LH hg
 have HO:=LH (And.intro hoa hfit)
 have HR:=LH hrows.rowsU.rows
 have hfl:=(zM hfit).2.2.2
 rw [zUD] at hfl
 have HFL:Hid (a.flatten.length≤1000000):=LH (by omega)
 clear hg hoa hfit hrows hfl HBT
 go_wp2_with fail
 refine (zhG a HO.out.1 A1 c1 w1 HR.out).mono ?_
 rintro e w2 ⟨rfl,hg⟩
 replace HG:=LH (HG.out.grow hg)
 replace HR:=LH (HR.out.grow hg)
 clear hg
 by_cases hc0:checkP a=0
 rotate_left
 ·have hcb:(checkP a != 0)=true:=bne_iff_ne.2 hc0
  clear hc0
  go_wp2_with fail
  refine (zxA _).mono ?_
  rintro e wz ⟨rfl,hg⟩
  have HGZ:=LH (HG.out.grow hg)
  clear hg
  go_wp2
  go_ret
  exact ⟨rfl,HGZ.out⟩
 have HC0:=LH hc0
 rw [hc0]
 clear hc0
 go_wp2_with fail
 refine (zTI session HS01.out.1 HS01.out.2 a HO.out.1 HO.out.2 HFL.out A1 c1 w2 HR.out).mono ?_
 rintro e w3 ⟨Am,cm,rfl,hg,hsz,Fm,hFm,-⟩
 replace HG:=LH (HG.out.grow hg)
 replace HR:=LH (HR.out.grow hg)
 have HS:=LH hFm
 obtain ⟨ad,rfl⟩:∃ ad,Am=some ad:=by
  obtain ⟨ad,e,_⟩:=SliceR.int_at (k:=.i64) HS.out.now 0 (by have:=(zM HO.out.2).1;omega)
  exact ⟨ad,e⟩
 clear hg hsz hFm
 obtain ⟨x,hxs,hxa,hxm,hxq⟩:∃ x:RX,x.s=session∧x.a=a∧x.m=sumP session a∧x.q=1048576:=⟨⟨session,a,sumP session a,1048576⟩,rfl,rfl,rfl,rfl⟩
 have HXM:Hid (x.m<4294967296):=LH (by rw [hxm];exact zrF (n:=0) (by omega) (zZK _ _))
 rw [← hxm]
 subst hxs hxa
 have HSM:Hid (x.m=sumP x.s x.a):=LH hxm
 have hgm:=(Keep.refl NoB w3).alloc (.cells #[.int .u64 x.s,.slice (some ad) (szs x.a).length cm,.int .u32 (x.m:Nat)] 40)
 have HM:=LH (heap_alloc_new w3 (.cells #[.int .u64 x.s,.slice (some ad) (szs x.a).length cm,.int .u32 (x.m:Nat)] 40))
 replace HG:=LH (HG.out.grow hgm)
 replace HR:=LH (HR.out.grow hgm)
 replace HS:=LH (HS.out.grow hgm)
 have HX:Hid x.Ok:=LH ⟨HS01.out.1,HS01.out.2,HXM.out,HO.out.1,HO.out.2⟩
 have HCF:Hid (OkC (1+k%5) (1+k/16) (1+j%40) x.q):=LH (by constructor <;> omega)
 have HQ:Hid (8*(szs x.a).sum≤x.q):=LH (by have:=HX.out.small;omega)
 have HXQ:=LH hxq
 clear hgm hxm hxq HXM HS01 HO
 go_wp2_with fail
 refine (zAG k j _ ⟨hk0,hk1⟩ ⟨hj0,hj1⟩).mono ?_
 rintro e w4 ⟨rfl,hg⟩
 have hgc:=(Keep.refl NoB w4).alloc (.cells #[.int .i64 (1+k%5),.int .i64 (1+k/16),.int .i64 (1+j%40),.int .i64 1048576] 26)
 have HC:=LH (heap_alloc_new w4 (.cells #[.int .i64 (1+k%5),.int .i64 (1+k/16),.int .i64 (1+j%40),.int .i64 1048576] 26))
 replace HG:=LH (HG.out.grow (hg.grow hgc))
 replace HR:=LH (HR.out.grow (hg.grow hgc))
 replace HS:=LH (HS.out.grow (hg.grow hgc))
 replace HM:=LH (Grow.heap (hg.grow hgc) HM.out)
 clear hg hgc
 obtain ⟨wK,hwK⟩:∃ wK,w4.alloc (.cells #[.int .i64 (1+k%5),.int .i64 (1+k/16),.int .i64 (1+j%40),.int .i64 1048576] 26)=wK:=⟨_,rfl⟩
 rw [hwK] at HG HR HS HM HC
 obtain ⟨bM,hbM⟩:∃ b,w3.heap.size=b:=⟨_,rfl⟩
 rw [hbM] at HM
 obtain ⟨k0,k1,k2,k3,kf⟩:=zLA HC.out
 go_wp2
 try rw [hwK]
 try rw [hbM]
 clear hwK hbM
 refine zE [0,1,2,3,4,5,6,7] [1,2,6,7] [0] [] rfl (by kernel_rfl) ?_
 refine ord_r (y:=by intro w' hg;have q0:=hg.cell k0 (fun h=>h);have q1:=hg.cell k1 (fun h=>h);have q2:=hg.cell k2 (fun h=>h);have q3:=hg.cell k3 (fun h=>h);go_simp;with_reducible rfl) (z:=?_)
 refine zG rfl rfl rfl rfl rfl Tryz.func36 rfl rfl [] rfl ?_
 refine (zUC wK.drew).mono ?_
 rintro e w5 ⟨st,kk,rfl,hg4,hK,hKF,hf,hnt,hlo,hn0⟩
 refine ⟨_,rfl,fun _=>hg4,?_⟩
 simp only [Act.put,pB,pC,pD]
 have hR1:=zIM (x:=x) HCF.out hK hf hnt hlo hn0
 rw [HXQ.out] at hR1
 have HKF:=LH (show ∀ j,KF st kk j→wK.heap.size≤j from hKF)
 refine zG rfl rfl rfl rfl rfl Tryz.func35 rfl rfl [.agg #[.int .i64 (1+k%5),.int .i64 (1+k/16),.int .i64 (1+j%40),.int .i64 1048576],.pointer (some ⟨st,0,none⟩)] rfl ?_
 refine hR1.mono ?_
 rintro e w6 ⟨g,F0,rfl,hg5,hI,hF0,hF1⟩
 refine ⟨_,rfl,fun _=>hg5,?_⟩
 simp only [Act.put,pB,pC,pD]
 iterate 3
  refine ord_p ?_
 iterate 2
  refine ord_s ?_
 refine zD ?_
 have hgK:=((Keep.refl NoB wK).drew.grow hg4).grow hg5
 have HI0:Hid (Grow wK w6∧RvI x g st .idle F0 w6∧∀ i,F0 i→wK.heap.size≤i∧i<w6.heap.size):=LH ⟨hgK,hI,fun i hi=>⟨(hF0 i hi).elim (fun h=>Nat.le_trans hg4.size h) (HKF.out i),hF1 i hi⟩⟩
 clear hg4 hK hKF hf hnt hlo hn0 hR1 HKF hg5 hI hF0 hF1 hgK k0 k1 k2 k3 kf HC HCF HXQ
 have hat6:0≤at_%12∧at_%12≤11:=by omega
 have HAT:Hid (-1000000≤at_%12-2∧at_%12-2≤1000000):=LH (by omega)
 have HSI:=LH (zkI HL2.out.2)
 have HSL:Hid ((stepsOf l2).length≤32):=LH (by rw [zZB];omega)
 clear hat6
 go_wp2_with fail
 refine (zlI A2 c2 l2 at_ w6 (HL2.out.1.grow (HG.out.grow HI0.out.1)) HL2.out.2 ⟨ha0,ha1⟩).mono ?_
 rintro e w7 ⟨As,cs,rfl,hg,hfs⟩
 have hga:=(Keep.refl NoB w7).alloc (.cells #[.slice As (stepsOf l2).length cs,.int .i64 (at_%12-2)] 83)
 have HP:=LH (heap_alloc_new w7 (.cells #[.slice As (stepsOf l2).length cs,.int .i64 (at_%12-2)] 83))
 have HPS:Hid (w6.heap.size≤w7.heap.size):=LH hg.size
 have HFS:=LH (hfs.grow hga)
 replace HI0:Hid (Grow wK (w7.alloc (.cells #[.slice As (stepsOf l2).length cs,.int .i64 (at_%12-2)] 83))∧RvI x g st .idle F0 (w7.alloc (.cells #[.slice As (stepsOf l2).length cs,.int .i64 (at_%12-2)] 83))∧∀ i,F0 i→wK.heap.size≤i∧i<w6.heap.size):=LH ⟨HI0.out.1.grow (hg.grow hga),HI0.out.2.1.grow (hg.grow hga),HI0.out.2.2⟩
 obtain ⟨p0,p1,pf⟩:=zVA HP.out
 have HOF:=LH (zHK x.a HX.out.a HX.out.fit A1 c1 _ (HR.out.grow HI0.out.1) As cs (stepsOf l2) HFS.out.now HSI.out HSL.out (at_%12-2) HAT.out)
 clear hg hga hfs
 obtain ⟨RV,hRV⟩:∃ RV,walkP (szs x.a) (wordA x.a) (stepsOf l2) (at_%12-2) 8192=RV:=⟨_,rfl⟩
 have HRV:=LH hRV
 have HRVE:Hid (0≤RV.2∧RV.2≤29):=LH (by rw [← hRV];exact zAM _ _ _ _ _)
 rw [hRV] at HOF
 clear hRV
 go_wp2_with fail
 refine HOF.out.mono ?_
 rintro e w8 ⟨rfl,hg⟩
 have hga:=(Keep.refl NoB w8).alloc (.cells RV.1 86)
 have hV:=heap_alloc_new w8 (.cells RV.1 86)
 replace HI0:Hid (Grow wK (w8.alloc (.cells RV.1 86))∧RvI x g st .idle F0 (w8.alloc (.cells RV.1 86))∧∀ i,F0 i→wK.heap.size≤i∧i<w6.heap.size):=LH ⟨HI0.out.1.grow (hg.grow hga),HI0.out.2.1.grow (hg.grow hga),HI0.out.2.2⟩
 replace HP:=LH (Grow.heap (hg.grow hga) HP.out)
 replace HFS:=LH (HFS.out.grow (hg.grow hga))
 have HVS:Hid (w6.heap.size≤w8.heap.size):=LH (Nat.le_trans HPS.out (Nat.le_trans (by simp) hg.size))
 obtain ⟨w9,hw9⟩:∃ w9,w8.alloc (.cells RV.1 86)=w9:=⟨_,rfl⟩
 obtain ⟨bP,hbP⟩:∃ b,w7.heap.size=b:=⟨_,rfl⟩
 obtain ⟨bV,hbV⟩:∃ b,w8.heap.size=b:=⟨_,rfl⟩
 rw [hw9] at hV HP HFS HI0
 rw [hbV] at hV HVS
 rw [hbP] at HP HPS HFS
 have HV:=LH hV
 clear hg hga hV p0 p1 pf HOF
 obtain ⟨Fr,hFr⟩:∃ Fr:Nat→Prop,∀ i,Fr i↔((wK.heap.size≤i∧i<w6.heap.size)∨w9.heap.size≤i):=⟨_,fun _=>Iff.rfl⟩
 have HFR:=LH hFr
 clear hFr
 have HI:Hid (Keep Fr w9 w9∧∃ s F,RvI x g st s F w9∧(∀ i,F i→Fr i∧i<w9.heap.size)∧noFail s=true∧(false=true→(readS x (stepsOf l2) (at_%12-2) s).2≠30)):=LH ⟨Keep.refl _ _,.idle,F0,HI0.out.2.1,fun i hi=>⟨(HFR.out i).2 (.inl (HI0.out.2.2 i hi)),Nat.lt_of_lt_of_le (HI0.out.2.2 i hi).2 (by have:=HVS.out;have:=(gE HV.out).1;omega)⟩,rfl,fun h=>(by cases h)⟩
 have HKS:=LH HI0.out.1
 clear HI0
 go_wp2
 try rw [hw9]
 try rw [hbP]
 try rw [hbV]
 clear hw9 hbP hbV
 go_loopw [24,25] (fun vb v wr=>∃ (i:Nat) (was:Bool),i≤n.length∧v=.int .i64 i∧vb=.bool was∧Hid (Keep Fr w9 wr∧∃ s F,RvI x g st s F wr∧(∀ i,F i→Fr i∧i<wr.heap.size)∧noFail s=true∧(was=true→(readS x (stepsOf l2) (at_%12-2) s).2≠30))) (fun _ v _=>n.length-(intOf v).toNat)
 case atStart=>exact ⟨0,false,by omega,rfl,rfl,HI⟩
 case round =>
  clear HI
  obtain ⟨i,was,hi,rfl,rfl,HI⟩:=hrel
  have hgw:Grow wK wr:=HKS.out.trans HI.out.1 (fun j hj=>.inr (by have:=(HFR.out j).1 hj;have:=HKS.out.size;omega))
  have HGW:=LH hgw
  clear hgw
  have hi0:0≤(i:Int):=by omega
  by_cases hlt:i<n.length
  ·have hlt':(i:Int)<n.length:=by omega
   have hwi:IntKind.i64.wrap ((i:Int)+1)=(i:Int)+1:=IntWalk.i64_in _ (by omega)
   obtain ⟨m0,m1,m2,mf⟩:=zI (Grow.heap HGW.out HM.out)
   obtain ⟨ad2,hAn,q0⟩:=SliceR.int_at (k:=.i64) (HN.out.grow (HG.out.grow HGW.out)) i hlt
   subst hAn
   obtain ⟨cN,hcN⟩:∃ cN:Nat,n[i]%256=(cN:Int):=⟨(n[i]%256).toNat,by omega⟩
   have hc256:cN<256:=by omega
   have hb1:bits .and .i64 n[i] 255=(cN:Int):=by rw [zfI,hcN]
   have hb2:bits .andNot .i64 ((cN:Nat):Int) 48=((dN cN:Nat):Int):=(zqH ⟨cN,hc256⟩).1
   generalize n[i]=ni at q0 hcN hb1
   clear hcN
   obtain ⟨s,F,hI,hF,hnf,hws⟩:=HI.out.2
   have HKP:=LH HI.out.1
   have HGR:=LH (zbG x HX.out ad cm cN hc256 A1 c1 wr.drew ((HS.out.now.grow HGW.out).grow (Keep.refl NoB wr).drew) ((HR.out.grow HGW.out).grow (Keep.refl NoB wr).drew))
   have HSF:=LH ((HS.out.grow HGW.out).grow (Keep.refl NoB wr).drew)
   have HII:=LH (hI.grow (Keep.refl NoB wr).drew)
   have HFF:=LH hF
   have HNF:=LH hnf
   have HWS:=LH hws
   clear hI hF hnf hws HI
   unfold deedV at HGR
   go_wp2
   refine zE [0,1,2,3,4,5,6,7,8,9,10,11,12] [10,11,12] [1,6] [11] rfl (by kernel_rfl) ?_
   refine ord_p ?_
   refine oc3 m0 m1 m2 ?_
   iterate 4
    refine ord_p ?_
   refine oc1 q0 ?_
   iterate 3
    refine ord_p ?_
   refine zG rfl rfl rfl rfl rfl Tryz.func40 rfl rfl [.agg #[.int .u64 x.s,.slice (some ad) (szs x.a).length cm,.int .u32 (x.m:Nat)],.slice A1 x.a.length c1,.agg #[.int .u8 0,.int .i64 (dN cN:Nat),qJ,qN,qJ,qJ,qO,qI,qI,qI,qI]] rfl ?_
   refine HGR.out.mono ?_
   rintro e wG hGP
   obtain ⟨gv,rfl,hg7,hT⟩:=zxJ HX.out hGP HSF.out
   have HT:=LH (hT HII.out (fun j hj=>(HFF.out j hj).2) (fun j hj e=>by have h8:=HS.out.lt hj;have h9:=(HFR.out j).1 (HFF.out j e).1;have:=HKS.out.size;omega))
   refine ⟨_,rfl,fun _=>hg7,?_⟩
   simp only [Act.put,pB,pC,pD]
   refine zG rfl rfl rfl rfl rfl Tryz.func39 rfl rfl [.pointer (some ⟨g,0,none⟩),gv] rfl ?_
   refine HT.out.mono ?_
   rintro e wT ⟨v,rfl,s',kd,hN,hout,F',hI',hk8,hF',hF2'⟩
   refine ⟨_,rfl,fun h=>absurd (by simp) h,?_⟩
   simp only [Act.put,pB,pC,pD]
   refine ord_s ?_
   refine zD ?_
   obtain ⟨hnf',hkd,hmono⟩:=zDK HX.out HSM.out HC0.out HQ.out (stepsOf l2) (at_%12-2) hN HNF.out
   have hg67:=(Keep.refl NoB wr).drew.grow hg7
   have hkp:Keep Fr w9 wT:=(HKP.out.grow hg67).trans hk8 (fun j hj=>.inl (HFF.out j hj).1)
   replace HI:Hid (Keep Fr w9 wT∧RvI x g st s' F' wT∧(∀ i,F' i→Fr i∧i<wT.heap.size)∧noFail s'=true):=LH
    ⟨hkp,hI',fun j hj=>⟨(hF' j hj).elim (fun h=>(HFF.out j h).1) (fun h=>(HFR.out j).2 (.inr (Nat.le_trans (HKP.out.grow hg67).size h))),hF2' j hj⟩,hnf'⟩
   have HWAS:Hid (was=true→(readS x (stepsOf l2) (at_%12-2) s').2≠30):=LH (fun h=>hmono (HWS.out h))
   have HOUT:=LH (hout.sack hkd)
   clear hGP hg7 hT HT hN hout hI' hk8 hF' hF2' hnf' hkd hmono hg67 hkp HGR HSF HII HFF HNF HWS m0 m1 m2 mf q0 hb1 hb2 hc256 HKP
   have hbP:bP<w9.heap.size:=(gE HP.out).1
   have hbV:bV<w9.heap.size:=(gE HV.out).1
   have hfrP:∀ i,w6.heap.size≤i→i<w9.heap.size→¬ Fr i:=fun i h1 h2 h3=>by have:=(HFR.out i).1 h3;omega
   have HPT:=LH ((HI.out.1.block bP hbP (hfrP bP HPS.out hbP)).trans HP.out)
   have HVT:=LH ((HI.out.1.block bV hbV (hfrP bV HVS.out hbV)).trans HV.out)
   have hst:=(HFS.out.keep HI.out.1 (fun j hj=>hfrP j (Nat.le_trans (Nat.le_refl _) hj.1) (by have:=hj.2;omega))).now
   have HRD:=LH (zyL HX.out HI.out.2.1 HI.out.2.2.2 As cs (stepsOf l2) hst HSI.out HSL.out (at_%12-2) HAT.out)
   have HRW:=LH (zOE HX.out (stepsOf l2) (at_%12-2) HI.out.2.2.2)
   clear hfrP hst hbP hbV
   obtain ⟨p0,p1,pf⟩:=zVA HPT.out
   obtain ⟨RS,hRS⟩:∃ RS,readS x (stepsOf l2) (at_%12-2) s'=RS:=⟨_,rfl⟩
   have HRS:=LH hRS
   rw [hRS] at HRD HWAS HRW
   rw [HRV.out] at HRW
   clear hRS
   go_wp2_with fail
   refine HRD.out.mono ?_
   rintro e wR ⟨rfl,hg⟩
   have hga:=(Keep.refl NoB wR).alloc (.cells RS.1 86)
   have hfresh:=heap_alloc_new wR (.cells RS.1 86)
   obtain ⟨r0,r1,r2,r3,r4,rf⟩:=zA hfresh
   obtain ⟨v0,v1,v2,v3,v4,vf⟩:=zA (Grow.heap (hg.grow hga) HVT.out)
   have HNX:Hid (Keep Fr w9 (wR.alloc (.cells RS.1 86))∧∃ s F,RvI x g st s F (wR.alloc (.cells RS.1 86))∧(∀ i,F i→Fr i∧i<(wR.alloc (.cells RS.1 86)).heap.size)∧noFail s=true∧((RS.2 != 30)=true→(readS x (stepsOf l2) (at_%12-2) s).2≠30)):=LH
    ⟨HI.out.1.grow (hg.grow hga),s',F',HI.out.2.1.grow (hg.grow hga),fun i hi=>⟨(HI.out.2.2.1 i hi).1,Nat.lt_of_lt_of_le (HI.out.2.2.1 i hi).2 (hg.grow hga).size⟩,HI.out.2.2.2,fun h=>by rw [HRS.out];exact bne_iff_ne.1 h⟩
   have hsc:∀ b,wT.cell? ⟨b,0,none⟩=some (.int .i64 3)→(wR.alloc (.cells RS.1 86)).cell? ⟨b,0,none⟩=some (.int .i64 3):=fun b h=>(hg.grow hga).cell h (fun h=>h)
   have HSC:=LH hsc
   clear hg hga hfresh p0 p1 pf HI HPT HVT hsc HRD HRS
   have hrv:=HRVE.out
   rcases HRW.out with h30 | hre
   ·have hwf:was=false:=by
      cases was with
      | false=>rfl
      | true=>exact absurd h30 (HWAS.out rfl)
    subst hwf
    rw [h30,bne_self_eq_false] at HNX
    rw [h30]
    clear HWAS HRW h30
    rcases HOUT.out with rfl | ⟨b,rfl,hb⟩
    ·clear HOUT HSC
     go_wp2
     go_roundw
     case rel=>exact ⟨i+1,false,by omega,by go_num,rfl,HNX⟩
     case measure=>simp [intOf];omega
    ·replace hb:=HSC.out b hb
     clear HOUT HSC
     go_wp2
     go_roundw
     case rel=>exact ⟨i+1,false,by omega,by go_num,rfl,HNX⟩
     case measure=>simp [intOf];omega
   ·subst hre
    have hnb:(RS.2 != 30)=true:=bne_iff_ne.2 (by omega)
    have hnb2:(RS.2==30)=false:=beq_eq_false_iff_ne.2 (by omega)
    have hw16:IntKind.i64.wrap RS.2=RS.2:=IntWalk.i64_in _ (by omega)
    have hr0:=hrv.1
    have hr1:RS.2≤65535:=by omega
    rw [hnb] at HNX
    clear HWAS HRW hrv
    rcases HOUT.out with rfl | ⟨b,rfl,hb⟩
    ·clear HOUT HSC
     cases was
     all_goals
      go_wp2
      go_roundw
      case rel=>exact ⟨i+1,true,by omega,by go_num,rfl,LH (by obtain ⟨h1,s9,F9,h2,h3,h4,h5⟩:=HNX.out;exact ⟨h1,s9,F9,h2,h3,h4,fun _=>h5 trivial⟩)⟩
      case measure=>simp [intOf];omega
    ·replace hb:=HSC.out b hb
     clear HOUT HSC
     cases was
     all_goals
      go_wp2
      go_roundw
      case rel=>exact ⟨i+1,true,by omega,by go_num,rfl,LH (by obtain ⟨h1,s9,F9,h2,h3,h4,h5⟩:=HNX.out;exact ⟨h1,s9,F9,h2,h3,h4,fun _=>h5 trivial⟩)⟩
      case measure=>simp [intOf];omega
  ·obtain rfl:i=n.length:=by omega
   have hlt':¬ ((n.length:Int)<n.length):=by omega
   obtain ⟨s,F,hI,hF,hnf,-⟩:=HI.out.2
   have HAR:=LH (zVL HX.out hI)
   have HII:=LH hI
   have HNF:=LH hnf
   clear hI hF hnf HI
   go_wp2_with fail
   refine HAR.out.mono ?_
   rintro e wA ⟨hgA,hcase⟩
   have HSTA:=LH (zvJ (HII.out.grow hgA))
   have HGA:=LH (HGW.out.grow hgA)
   clear hgA HAR HII
   rcases hcase with ⟨rfl,Ab,cb,rfl,hrow⟩ | ⟨hno,rfl⟩
   ·have HROW:=LH hrow
    clear hrow
    go_wp2_with fail
    refine HSTA.out.mono ?_
    rintro e wS ⟨⟨sa,sb,rfl⟩,hgS⟩
    simp only [phaseS,errS]
    have hz:=heap_alloc_new wS (.cells #[qQ,.int .u16 0,.int .i64 sa,.int .i64 sb] 48)
    have hgs:=(Keep.refl NoB wS).alloc (.cells #[qQ,.int .u16 0,.int .i64 sa,.int .i64 sb] 48)
    have HZ:=LH hz
    replace HGA:=LH (HGA.out.grow (hgS.grow hgs))
    replace HROW:=LH (HROW.out.grow (hgS.grow hgs))
    clear hz hgs hgS HSTA
    go_wp2_with fail
    refine (zxA _).mono ?_
    rintro e wZ ⟨rfl,hgZ⟩
    obtain ⟨z0,z1,z2,z3,zf⟩:=zLA (Grow.heap hgZ HZ.out)
    replace HGA:=LH (HGA.out.grow hgZ)
    have HSA:=LH (zWH x.a HX.out.a A1 Ab c1 cb wZ (HR.out.grow HGA.out) (HROW.out.grow hgZ))
    clear hgZ HROW
    go_wp2_with fail
    refine HSA.out.mono ?_
    rintro e wY ⟨rfl,hgY⟩
    have HGF:=LH (HG.out.grow (HGA.out.grow hgY))
    replace z0:=hgY.cell z0 (fun h=>h)
    clear hgY HSA z1 z2 z3 zf
    obtain ⟨z9,z8,z7,z6,zf⟩:True∧True∧True∧True∧True:=⟨trivial,trivial,trivial,trivial,trivial⟩
    go_wp2
    go_ret
    exact ⟨rfl,HGF.out⟩
   ·have hp2:(phaseS s==2)=false:=beq_eq_false_iff_ne.2 hno
    have hp3:(phaseS s != 3)=true:=by
     have h9:=HNF.out
     cases s with
     | fail e=>cases h9
     | _=>rfl
    obtain ⟨ps,hps⟩:∃ p,phaseS s=p:=⟨_,rfl⟩
    obtain ⟨es,hes⟩:∃ p,errS s=p:=⟨_,rfl⟩
    rw [hps] at hp2 hp3 HSTA
    rw [hes] at HSTA
    clear hps hes hno
    go_wp2_with fail
    refine HSTA.out.mono ?_
    rintro e wS ⟨⟨sa,sb,rfl⟩,hgS⟩
    have hz:=heap_alloc_new wS (.cells #[.int .i64 ps,.int .u16 es,.int .i64 sa,.int .i64 sb] 48)
    have hgs:=(Keep.refl NoB wS).alloc (.cells #[.int .i64 ps,.int .u16 es,.int .i64 sa,.int .i64 sb] 48)
    have HZ:=LH hz
    replace HGA:=LH (HGA.out.grow (hgS.grow hgs))
    clear hz hgs hgS HSTA
    go_wp2_with fail
    refine (zxA _).mono ?_
    rintro e wZ ⟨rfl,hgZ⟩
    obtain ⟨z0,z1,z2,z3,zf⟩:=zLA (Grow.heap hgZ HZ.out)
    have HGF:=LH (HG.out.grow (HGA.out.grow hgZ))
    clear hgZ HGA
    go_wp2
    go_ret
    exact ⟨rfl,HGF.out⟩
end Go.Proofs.YtfkcpaahdlkcdaaGreat

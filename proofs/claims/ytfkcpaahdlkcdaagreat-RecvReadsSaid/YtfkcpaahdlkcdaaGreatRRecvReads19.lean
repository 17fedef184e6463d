import Derived.Test.YtfkcpaahdlkcdaaGreatRRecvReads18
set_option linter.unusedSimpArgs false
set_option linter.unusedVariables false
set_option maxRecDepth 100000
set_option maxHeartbeats 16000000
namespace Go.Proofs.YtfkcpaahdlkcdaaGreat
open Go.RowKit
theorem znK (l0:Nat) (ih:LayAt l0) (k z:Int) (ws bs:List Int) (rows:List (Tr×Value×Value×Value)) (A1 A2 A3:Option Addr) (c1 c2 c3:Nat) (h1:ws.length≤10000) (h2:bs.length≤10000) (h3:rows.length≤10000) (hk0:k≠0) (a:List (List Int)) (size:Int) (A:Option Addr) (c s i:Nat) (w:World) (F:Nat→Prop) (hF:Foot (RowsU a (.slice A a.length c)) w F) (hlim:LimA a) (hnum:NumA a) (hz0:0≤size) (hz1:size≤4096) (hs:s<a.length) (hi:i<a[s].length)
    (hcl:needN k ws.length bs.length rows.length=ws.length+(bs.length+7)/8+rows.length) (hn:needN k ws.length bs.length rows.length≠0) (hnb:ws.length+(bs.length+7)/8+rows.length≤5000) (hws:okW ws) (hbs:∀ x∈bs,0≤x∧x≤255) (hW:SliceR 1 (.slice A1 ws.length c1) ws.length (u64s ws) w) (hB:SliceR 1 (.slice A2 bs.length c2) bs.length (u8s bs) w) (hR:SliceR 5 (.slice A3 rows.length c3) rows.length (kcs rows) w) (hr:∀ r,r∈rows→TrR w r.1 r.2.1 r.2.2.1 r.2.2.2) (hrn:∀ r,r∈rows→TrN r.1) (hrb:∀ r,r∈rows→rightB l0 r.1=true) (hsl:s+1=a.length) (hfit:size<(a[s].length:Int)+needN k ws.length bs.length rows.length) :
    Calls Tryz.prog 127 #[.agg #[.slice A a.length c,.int .i64 size,qL],.agg #[.int .i64 k,.int .i64 z,.slice A1 ws.length c1,.slice A2 bs.length c2,.slice A3 rows.length c3],.int .i64 s,.int .i64 i] w (LayPost (needN k ws.length bs.length rows.length+(rows.map (fun r=>needL l0 r.1)).sum) a size false F w):=by
 have HI:Hid (LI w (.cells #[.int .i64 k,.int .i64 z,.slice A1 ws.length c1,.slice A2 bs.length c2,.slice A3 rows.length c3] 114) F a A c size false F _):=LH (LI.start hF)
 have HLIM:=LH hlim
 have HNUM:=LH hnum
 have HIH:=LH ih
 have HCL:=LH hcl
 have HWS:=LH hws
 have HBS:=LH hbs
 have HW:=LH hW
 have HB:=LH hB
 have HR:=LH hR
 have HRR:=LH hr
 have HRN:=LH hrn
 have HRB:=LH hrb
 have HA0:=LH (ExtA.refl a)
 have hkb:(k==0)=false:=beq_eq_false_iff_ne.2 hk0
 have hl16:=hlim.1
 have hi4:=hlim.2 _ (List.getElem_mem hs)
 obtain ⟨nd,hnd⟩:∃ nd,needN k ws.length bs.length rows.length=nd:=⟨_,rfl⟩
 have HND:=LH hnd
 have hndb:nd≤5000:=by omega
 have hnd0:((nd:Int)==0)=false:=beq_eq_false_iff_ne.2 (by omega)
 obtain ⟨L,hL⟩:∃ L,a.length=L+1:=⟨a.length-1,by omega⟩
 have hLl:L<a.length:=by omega
 have hLi:(L:Int)<a.length:=by omega
 have hwL:IntKind.i64.wrap ((a.length:Int)-1)=(L:Int):=by rw [IntWalk.i64_in _ (by omega)];omega
 have HL:=LH hL
 obtain ⟨P,hP⟩:∃ P,a[L].length=P:=⟨_,rfl⟩
 have HP:=LH hP
 have hPb:P≤4096:=by rw [← hP];exact hlim.2 _ (List.getElem_mem hLl)
 have hwP:IntKind.i64.wrap ((P:Int)+nd)=(P:Int)+nd:=IntWalk.i64_in _ (by omega)
 obtain ⟨I,hI⟩:∃ I,a[s].length=I:=⟨_,rfl⟩
 rw [hI] at hi hi4
 have HI2S:=LH hI
 obtain rfl:s=L:=by omega
 obtain rfl:P=I:=by rw [← hP,← hI]
 rw [hnd,hI] at hfit
 have hsb:((s:Int)==s)=true:=by simp
 have hf1:decide ((P:Int)+nd≤size)=false:=by rw [decide_eq_false_iff_not];omega
 have hwsg:IntKind.i64.wrap ((s:Int)+1)=(a.length:Int):=by rw [IntWalk.i64_in _ (by omega)];omega
 have HSMX:Hid (∀ (n:Nat) (b:List (List Int)) (f:Bool),nd≤n→SmA n a size false b f):=LH (fun n b f hn9 _ h1 h2=>by
  exfalso;have e9:s=0:=by omega
  subst e9
  obtain ⟨x9,hx9⟩:=List.length_eq_one_iff.1 h1
  subst hx9
  simp at h2 hP
  omega)
 clear hF hlim hnum ih hcl hws hbs hW hB hR hr hrn hrb hn hnd hL hP hI hk0 hfit
 go_enter Tryz.func127,Tryz.ntmps127
 go_wp2_with fail
 refine (zoA k z A1 A2 A3 ws.length bs.length rows.length c1 c2 c3 (by omega) (by omega) (by omega) _).mono ?_
 rintro e w1 ⟨rfl,hg⟩
 rw [HND.out]
 replace HI:=LH (HI.out.later hg)
 clear hg
 obtain ⟨ad,Ah,ch,rfl,hcell,_⟩:=RowsU.at_ HI.out.ar.now s hLl
 rw [HP.out] at hcell
 obtain ⟨t0,t1,t2,tf⟩:=zI HI.out.t
 obtain ⟨n0,n1,n2,n3,n4,nf⟩:=zA HI.out.nd
 go_wp2
 refine zE [0,1,2,3,4,7,8,5,6,9,10,11,12] [5,6,9,10,11,12] [0,8] [12] rfl (by kernel_rfl) ?_
 refine oc3 t0 t1 t2 ?_
 iterate 5
  refine ord_p ?_
 refine oc5 n0 n1 n2 n3 n4 ?_
 refine zG rfl rfl rfl rfl rfl Tryz.func197 rfl rfl [.int .i64 a.length,.int .i64 0] rfl ?_
 refine (zSC a.length 0 _).mono ?_
 rintro e w2 ⟨x,rfl,hx0,hx1,hg2⟩
 refine ⟨_,rfl,fun _=>hg2,?_⟩
 simp only [Act.put,pB,pC,pD]
 have HI2:=LH ((HI.out.later (Keep.refl NoB w1).drew).later hg2)
 refine zG rfl rfl rfl rfl rfl Tryz.func194 rfl rfl [.agg #[.slice (some ad) a.length c,.int .i64 size,qL],.int .i64 s,.int .i64 i,.int .u64 x] rfl ?_
 refine (rset2 a (some ad) c size s i x hs (by rw [HP.out];exact hi) HLIM.out HNUM.out hx0 hx1 w2 HI2.out.ar).mono ?_
 rintro e w3 ⟨a1,A1',c1',rfl,hg3,har,hlim1,hnum1,hext1,hlen1,heach1,_⟩
 refine ⟨_,rfl,fun _=>hg3,?_⟩
 simp only [Act.put,pB,pC,pD]
 refine zG rfl rfl rfl rfl rfl Tryz.func195 rfl rfl [.agg #[.int .i64 k,.int .i64 z,.slice A1 ws.length c1,.slice A2 bs.length c2,.slice A3 rows.length c3],.int .i64 0] rfl ?_
 refine (zfA k z 0 A1 A2 A3 ws.length bs.length rows.length c1 c2 c3 (by omega) (by omega) (by omega) _).mono ?_
 rintro e w4 ⟨x2,rfl,hy0,hy1,hg4⟩
 refine ⟨_,rfl,fun _=>hg4,?_⟩
 simp only [Act.put,pB,pC,pD]
 refine zh rfl rfl rfl rfl ?_ ?_ ?_ ?_ ?_ ?_
 rotate_left 3
 ·go_simp;first | with_reducible rfl | (constructor <;> with_reducible rfl)
 ·simp only [Act.put,pB,pC,pD];rfl
 have hga:=(Keep.refl NoB w4).alloc (.cells #[.int .u64 x2] 22)
 have hsl2:SliceR 1 (.slice (some ⟨w4.heap.size,0,none⟩) ([x2]:List Int).length 1) ([x2]:List Int).length (u64s [x2]) (w4.alloc (.cells #[.int .u64 x2] 22)):=SliceR.of_block (cs:=#[.int .u64 x2]) (heap_alloc_new w4 _) (Nat.le_refl _) rfl
 have hok2:okW [x2]:=fun y hy=>by rw [List.mem_singleton.1 hy];exact ⟨hy0,hy1⟩
 refine zG rfl rfl rfl rfl rfl Tryz.func196 rfl rfl [.agg #[.slice A1' a1.length c1',.int .i64 size,qL],.int .i64 a.length,.slice (some ⟨w4.heap.size,0,none⟩) 1 1] rfl ?_
 refine (zqB a1 A1' c1' size false a.length [x2] (some ⟨w4.heap.size,0,none⟩) 1 (by omega) (by omega) (fun y hy=>by have:=hlim1.2 y hy;omega) (by simp) (fun _=>hlim1) hnum1 hok2 hz1 _ ((har.grow hg4).grow hga) hsl2).mono ?_
 rintro e w5 ⟨a2,A',c',fl,rfl,hg5,har5,hnum5,hext5,hlen5,hsg5,hal5,hbb5,_,hlim5,_⟩
 refine ⟨_,rfl,fun _=>hg5,?_⟩
 simp only [Act.put,pB,pC,pD]
 have hg35:Grow w3 w5:=(hg4.grow hga).grow hg5
 have HI3:=LH (HI2.out.put (full':=fl) (hg3.grow hg35) har5 (fun j hj=>by
  rcases hj with e2 | e2
  ·rcases e2 with e3 | e3
   ·exact .inl e3
   ·exact .inr e3.1
  ·have h1:=(hg3.grow (hg4.grow hga)).size
   exact .inr (by omega)))
 have hr1:=HI2.out.later (hg3.grow hg35)
 have HTS:Hid (ExtA a a2∧a2.length≤17∧(∀ s∈a2,s.length≤4097)∧NumA a2∧(fl=false→LimA a2)∧a.length<a2.length∧(a2.getD a.length []).length=1):=LH ⟨hext1.trans hext5,by have:=hlim1.1;omega,fun y hy=>hbb5 4096 hlim1.2 y hy,hnum5,hlim5,hsg5,by rw [hlen5,heach1];simp⟩
 obtain ⟨y0,y1,y2,yf⟩:=zI hr1.t
 clear hx0 hx1 hg2 hg3 har hlim1 hnum1 hext1 hlen1 heach1 hy0 hy1 hg4 hga hsl2 hok2 hg5 har5 hnum5 hext5 hlen5 hsg5 hal5 hbb5 hlim5 hg35 hr1 HI2 HI
 refine zJ rfl rfl rfl rfl ?_ ?_ (fun h=>absurd (by simp) h) ?_
 rotate_left
 ·go_simp;with_reducible rfl
 refine zD ?_
 clear y0 y1 y2 yf t0 t1 t2 tf n0 n1 n2 n3 n4 nf hcell
 generalize ((w5.setCell ⟨w.heap.size,0,none⟩ (.slice A' a2.length c')).setCell ⟨w.heap.size,1,none⟩ (.int .i64 size)).setCell ⟨w.heap.size,2,none⟩ (.bool fl)=w4 at HI3 ⊢
 go_wp2
 obtain ⟨t0,t1,t2,tf⟩:=zI HI3.out.t
 obtain ⟨n0,n1,n2,n3,n4,nf⟩:=zA HI3.out.nd
 have HG1:=LH (HI3.out.gr.drew)
 refine zE [0,1,2,3,4,5] [3,4,5] [0,2] [5] rfl (by kernel_rfl) ?_
 refine oc3 t0 t1 t2 ?_
 refine ord_p ?_
 refine oc5 n0 n1 n2 n3 n4 ?_
 refine zG rfl rfl rfl rfl rfl Tryz.func198 rfl rfl [.agg #[.int .i64 k,.int .i64 z,.slice A1 ws.length c1,.slice A2 bs.length c2,.slice A3 rows.length c3]] rfl ?_
 refine (zCB k z ws bs rows.length A1 A2 A3 c1 c2 c3 (by omega) (by omega) (by omega) HWS.out HBS.out _ (HW.out.grow HG1.out) (HB.out.grow HG1.out)).mono ?_
 rintro e w5 ⟨l,Al,cl,rfl,hll,hlw,hg5,hsl5⟩
 refine ⟨_,rfl,fun _=>hg5,?_⟩
 simp only [Act.put,pB,pC,pD]
 have HT5:=LH ((HI3.out.later (Keep.refl NoB w4).drew).later hg5)
 have hlb:l.length≤5000:=by omega
 have hlnd:l.length=nd:=by rw [hll,← HCL.out,HND.out]
 refine zG rfl rfl rfl rfl rfl Tryz.func196 rfl rfl [.agg #[.slice A' a2.length c',.int .i64 size,.bool fl],.int .i64 a.length,.slice Al l.length cl] rfl ?_
 refine (zqB a2 A' c' size fl a.length l Al cl (by have:=HTS.out.2.2.2.2.2.1;omega) (by have:=HTS.out.2.1;omega) (fun y hy=>by have:=HTS.out.2.2.1 y hy;omega) (by omega) (by simpa using HTS.out.2.2.2.2.1) HTS.out.2.2.2.1 hlw hz1 w5 HT5.out.ar hsl5).mono ?_
 rintro e w6 ⟨a3,A5,c5,fl3,rfl,hg6,har6,hnum3,hext3,hlen3,hsg3,_,hbb3,hal3,hlim3,hsm3⟩
 refine ⟨_,rfl,fun _=>hg6,?_⟩
 simp only [Act.put,pB,pC,pD]
 have HT6:=LH (HT5.out.put (full':=fl3) hg6 har6 (fun j hj=>hj.imp id (fun h=>h.1)))
 have hr1:=HT5.out.later hg6
 have HQS:Hid (ExtA a a3∧BigA a3∧NumA a3∧(fl3=false→LimA a3)∧a.length<a3.length∧1+nd≤(a3.getD a.length []).length) :=
  LH ⟨HTS.out.1.trans hext3,⟨by have:=HTS.out.2.1;have:=hal3 HTS.out.2.2.2.2.2.1;omega,fun y hy=>by have:=hbb3 4097 HTS.out.2.2.1 y hy;omega⟩,hnum3,hlim3,hsg3,by rw [hlen3,HTS.out.2.2.2.2.2.2,hlnd];exact Nat.le_refl _⟩
 have HSM3:Hid (SmA (nd+((rows.take 0).map (fun r=>needL l0 r.1)).sum) a size false a3 fl3):=LH (HSMX.out _ _ _ (by omega))
 obtain ⟨y0,y1,y2,yf⟩:=zI hr1.t
 clear hsm3 hg5 hsl5 hg6 har6 hnum3 hext3 hlen3 hsg3 hbb3 hal3 hlim3 hr1 HT5 HI3 HTS hll hlw hlb hlnd
 refine zJ rfl rfl rfl rfl ?_ ?_ (fun h=>absurd (by simp) h) ?_
 rotate_left
 ·go_simp;with_reducible rfl
 refine zD ?_
 clear y0 y1 y2 yf t0 t1 t2 tf n0 n1 n2 n3 n4 nf
 generalize ((w6.setCell ⟨w.heap.size,0,none⟩ (.slice A5 a3.length c5)).setCell ⟨w.heap.size,1,none⟩ (.int .i64 size)).setCell ⟨w.heap.size,2,none⟩ (.bool fl3)=w7 at HT6 ⊢
 have hkn:rows.length≤nd:=by rw [← HND.out,HCL.out];omega
 have hwa:IntKind.i64.wrap ((1:Int)+nd)=(1:Int)+nd:=IntWalk.i64_in _ (by omega)
 have hwb:IntKind.i64.wrap ((1:Int)+nd-rows.length)=(1:Int)+nd-rows.length:=IntWalk.i64_in _ (by omega)
 go_wp2
 go_loopw [14] (fun v wr=>∃ (j:Nat) (a4:List (List Int)) (A4:Option Addr) (c4:Nat) (fl4:Bool) (F4:Nat→Prop),j≤rows.length∧v=.int .i64 j∧Hid (LI w (.cells #[.int .i64 k,.int .i64 z,.slice A1 ws.length c1,.slice A2 bs.length c2,.slice A3 rows.length c3] 114) F a4 A4 c4 size fl4 F4 wr∧ExtA a a4∧BigA a4∧NumA a4∧(fl4=false→LimA a4)∧a.length<a4.length∧1+nd≤(a4.getD a.length []).length)∧Hid (SmA (nd+((rows.take j).map (fun r=>needL l0 r.1)).sum) a size false a4 fl4)) (fun v _=>rows.length-(intOf v).toNat)
 case atStart=>exact ⟨0,a3,A5,c5,fl3,_,by omega,rfl,LH ⟨HT6.out,HQS.out⟩,HSM3⟩
 case round =>
  clear HT6 HQS
  obtain ⟨j,a4,A4,c4,fl4,F4,hj,rfl,HH,HSM4⟩:=hrel
  obtain ⟨t0,t1,t2,tf⟩:=zI HH.out.1.t
  obtain ⟨n0,n1,n2,n3,n4,nf⟩:=zA HH.out.1.nd
  by_cases hlt:j<rows.length
  ·have hlt':(j:Int)<rows.length:=by omega
   have hwj:IntKind.i64.wrap ((j:Int)+1)=(j:Int)+1:=IntWalk.i64_in _ (by omega)
   obtain ⟨Q,hQ⟩:∃ Q:Nat,1+nd-rows.length+j=Q:=⟨_,rfl⟩
   have hwc:IntKind.i64.wrap ((1:Int)+nd-rows.length+j)=(Q:Int):=by rw [IntWalk.i64_in _ (by omega)];omega
   have hQl:Q<(a4.getD a.length []).length:=by have:=HH.out.2.2.2.2.2.2;omega
   obtain ⟨a3d,rfl,q0,q1,q2,q3,q4⟩:=zuA (HR.out.grow HH.out.1.gr) j hlt
   have hT:=(HRR.out _ (List.getElem_mem hlt)).grow HH.out.1.gr.drew
   obtain ⟨B1,g1,B2,g2,B3,g3,e1,e2,e3⟩:=hT.parts
   rw [e1] at q2
   rw [e2] at q3
   rw [e3] at q4
   have hIH:=HIH.out rows[j].1 _ _ _ a4 size fl4 A4 c4 a.length Q wr.drew F4 hT (HRN.out _ (List.getElem_mem hlt)) (HRB.out _ (List.getElem_mem hlt)) (HH.out.1.ar.grow (Keep.refl NoB wr).drew) HH.out.2.2.1 HH.out.2.2.2.1 HH.out.2.2.2.2.1 hz0 hz1 HH.out.2.2.2.2.2.1 hQl
   rw [e1,e2,e3] at hIH
   have HCALL:=LH hIH
   clear hIH hT e1 e2 e3 hQ
   go_wp2
   refine zE [0,1,2,3,4,5,6,7,8,9,10,11,12,13,14,15,16,17] [16,17] [0,2,5,11] [17] rfl (by kernel_rfl) ?_
   refine oc3 t0 t1 t2 ?_
   refine ord_p ?_
   refine oc1 n4 ?_
   iterate 2
    refine ord_p ?_
   refine ord_r (y:=by intro w' hg;have p0:=hg.cell q0 (fun h=>h);have p1:=hg.cell q1 (fun h=>h);have p2:=hg.cell q2 (fun h=>h);have p3:=hg.cell q3 (fun h=>h);have p4:=hg.cell q4 (fun h=>h);go_simp;with_reducible rfl) (z:=?_)
   iterate 5
    refine ord_p ?_
   refine oc1 n4 ?_
   iterate 4
    refine ord_p ?_
   refine zG rfl rfl rfl rfl rfl Tryz.func127 rfl rfl [.agg #[.slice A4 a4.length c4,.int .i64 size,.bool fl4],.agg #[.int .i64 rows[j].1.kind,.int .i64 rows[j].1.size,.slice B1 rows[j].1.ws.length g1,.slice B2 rows[j].1.bs.length g2,.slice B3 rows[j].1.kids.length g3],.int .i64 a.length,.int .i64 Q] rfl ?_
   refine HCALL.out.mono ?_
   rintro e w8 ⟨a5,fl5,A6,c6,F5,rfl,hg8,har8,hF8,hext5,hbig5,hnum5,hlim5,hsm5⟩
   refine ⟨_,rfl,fun _=>hg8,?_⟩
   simp only [Act.put,pB,pC,pD]
   have HI8:=LH ((HH.out.1.later (Keep.refl NoB wr).drew).put (full':=fl5) hg8 har8 hF8)
   have hr1:=(HH.out.1.later (Keep.refl NoB wr).drew).later hg8
   have HQ5:Hid (ExtA a a5∧BigA a5∧NumA a5∧(fl5=false→LimA a5)∧a.length<a5.length∧1+nd≤(a5.getD a.length []).length):=LH ⟨HH.out.2.1.trans hext5,hbig5,hnum5,hlim5,Nat.lt_of_lt_of_le HH.out.2.2.2.2.2.1 hext5.1,Nat.le_trans HH.out.2.2.2.2.2.2 (hext5.2 _ HH.out.2.2.2.2.2.1)⟩
   obtain ⟨y0,y1,y2,yf⟩:=zI hr1.t
   have HSM5:Hid (SmA (nd+((rows.take (j+1)).map (fun r=>needL l0 r.1)).sum) a size false a5 fl5):=LH (HSMX.out _ _ _ (by omega))
   clear hg8 har8 hF8 hext5 hbig5 hnum5 hlim5 hsm5 hr1 HCALL HSM4
   refine zJ rfl rfl rfl rfl ?_ ?_ (fun h=>absurd (by simp) h) ?_
   rotate_left
   ·go_simp;with_reducible rfl
   refine zD ?_
   clear y0 y1 y2 yf t0 t1 t2 tf n0 n1 n2 n3 n4 nf q0 q1 q2 q3 q4 HH
   generalize ((w8.setCell ⟨w.heap.size,0,none⟩ (.slice A6 a5.length c6)).setCell ⟨w.heap.size,1,none⟩ (.int .i64 size)).setCell ⟨w.heap.size,2,none⟩ (.bool fl5)=w9 at HI8 ⊢
   go_wp2
   go_roundw
   case rel=>exact ⟨j+1,a5,A6,c6,fl5,F5,by omega,by go_num,LH ⟨HI8.out,HQ5.out⟩,HSM5⟩
   case measure=>simp [intOf];omega
  ·obtain rfl:j=rows.length:=by omega
   have hlt':¬ ((rows.length:Int)<rows.length):=by omega
   obtain ⟨y0,y1,y2,yf⟩:=zI HH.out.1.r
   have hk5:=three wr (w.heap.size+2) (.slice A4 a4.length c4) (.int .i64 size) (.bool fl4)
   have HFIN:Hid (LayPost (needN k ws.length bs.length rows.length+(rows.map (fun r=>needL l0 r.1)).sum) a size false F w (.returned (.agg #[.slice A4 a4.length c4,.int .i64 size,.bool fl4])) (((wr.setCell ⟨w.heap.size+2,0,none⟩ (.slice A4 a4.length c4)).setCell ⟨w.heap.size+2,1,none⟩ (.int .i64 size)).setCell ⟨w.heap.size+2,2,none⟩ (.bool fl4))) :=
    LH ⟨a4,fl4,A4,c4,F4,rfl,HH.out.1.gr.trans hk5 (fun i hi=>.inr (by omega)),HH.out.1.ar.keep hk5 (fun i hi e=>by have:=HH.out.1.fd i hi;omega),HH.out.1.ff,HH.out.2.1,HH.out.2.2.1,HH.out.2.2.2.1,HH.out.2.2.2.2.1,by rw [HND.out];simpa using HSM4.out⟩
   have hput:=put3 (.slice A4 a4.length c4) (.int .i64 size) (.bool fl4) HH.out.1.r
   clear hk5
   obtain ⟨x0,x1,x2,xf⟩:=zI hput
   clear hput HH HSM4
   go_wp2
   refine bodyPost_ret (v:=.agg #[.slice A4 a4.length c4,.int .i64 size,.bool fl4]) ?_ rfl HFIN.out
   rw [zO rfl];go_simp
theorem zoK (l0:Nat) (ih:LayAt l0) (k z:Int) (ws bs:List Int) (rows:List (Tr×Value×Value×Value)) (A1 A2 A3:Option Addr) (c1 c2 c3:Nat) (h1:ws.length≤10000) (h2:bs.length≤10000) (h3:rows.length≤10000) (hk0:k≠0) (a:List (List Int)) (size:Int) (A:Option Addr) (c s i:Nat) (w:World) (F:Nat→Prop) (hF:Foot (RowsU a (.slice A a.length c)) w F) (hlim:LimA a) (hnum:NumA a) (hz0:0≤size) (hz1:size≤4096) (hs:s<a.length) (hi:i<a[s].length)
    (hcl:needN k ws.length bs.length rows.length=ws.length+(bs.length+7)/8+rows.length) (hn:needN k ws.length bs.length rows.length≠0) (hnb:ws.length+(bs.length+7)/8+rows.length≤5000) (hws:okW ws) (hbs:∀ x∈bs,0≤x∧x≤255) (hW:SliceR 1 (.slice A1 ws.length c1) ws.length (u64s ws) w) (hB:SliceR 1 (.slice A2 bs.length c2) bs.length (u8s bs) w) (hR:SliceR 5 (.slice A3 rows.length c3) rows.length (kcs rows) w) (hr:∀ r,r∈rows→TrR w r.1 r.2.1 r.2.2.1 r.2.2.2) (hrn:∀ r,r∈rows→TrN r.1) (hrb:∀ r,r∈rows→rightB l0 r.1=true) (hsl:s+1≠a.length) (hfit:size<(a[a.length-1].length:Int)+needN k ws.length bs.length rows.length+1) :
    Calls Tryz.prog 127 #[.agg #[.slice A a.length c,.int .i64 size,qL],.agg #[.int .i64 k,.int .i64 z,.slice A1 ws.length c1,.slice A2 bs.length c2,.slice A3 rows.length c3],.int .i64 s,.int .i64 i] w (LayPost (needN k ws.length bs.length rows.length+(rows.map (fun r=>needL l0 r.1)).sum) a size false F w):=by
 have HI:Hid (LI w (.cells #[.int .i64 k,.int .i64 z,.slice A1 ws.length c1,.slice A2 bs.length c2,.slice A3 rows.length c3] 114) F a A c size false F _):=LH (LI.start hF)
 have HLIM:=LH hlim
 have HNUM:=LH hnum
 have HIH:=LH ih
 have HCL:=LH hcl
 have HWS:=LH hws
 have HBS:=LH hbs
 have HW:=LH hW
 have HB:=LH hB
 have HR:=LH hR
 have HRR:=LH hr
 have HRN:=LH hrn
 have HRB:=LH hrb
 have HA0:=LH (ExtA.refl a)
 have hkb:(k==0)=false:=beq_eq_false_iff_ne.2 hk0
 have hl16:=hlim.1
 have hi4:=hlim.2 _ (List.getElem_mem hs)
 obtain ⟨nd,hnd⟩:∃ nd,needN k ws.length bs.length rows.length=nd:=⟨_,rfl⟩
 have HND:=LH hnd
 have hndb:nd≤5000:=by omega
 have hnd0:((nd:Int)==0)=false:=beq_eq_false_iff_ne.2 (by omega)
 obtain ⟨L,hL⟩:∃ L,a.length=L+1:=⟨a.length-1,by omega⟩
 have hLl:L<a.length:=by omega
 have hLi:(L:Int)<a.length:=by omega
 have hwL:IntKind.i64.wrap ((a.length:Int)-1)=(L:Int):=by rw [IntWalk.i64_in _ (by omega)];omega
 have HL:=LH hL
 obtain ⟨P,hP⟩:∃ P,a[L].length=P:=⟨_,rfl⟩
 have HP:=LH hP
 have hPb:P≤4096:=by rw [← hP];exact hlim.2 _ (List.getElem_mem hLl)
 have hwP:IntKind.i64.wrap ((P:Int)+nd)=(P:Int)+nd:=IntWalk.i64_in _ (by omega)
 obtain ⟨I,hI⟩:∃ I,a[s].length=I:=⟨_,rfl⟩
 rw [hI] at hi hi4
 have HI2S:=LH hI
 have hPL:a[a.length-1].length=P:=by rw [← hP];congr 2;omega
 rw [hPL,hnd] at hfit
 have hsb:((s:Int)==L)=false:=beq_eq_false_iff_ne.2 (by omega)
 have hwP1:IntKind.i64.wrap ((P:Int)+nd+1)=(P:Int)+nd+1:=IntWalk.i64_in _ (by omega)
 have hf2:decide (size<(P:Int)+nd+1)=true:=by rw [decide_eq_true_eq];omega
 clear hPL
 have hwsg:IntKind.i64.wrap ((L:Int)+1)=(a.length:Int):=by rw [IntWalk.i64_in _ (by omega)];omega
 have HSMX:Hid (∀ (n:Nat) (b:List (List Int)) (f:Bool),nd≤n→SmA n a size false b f):=LH (fun n b f hn9 _ h1 h2=>by
  exfalso;omega)
 clear hF hlim hnum ih hcl hws hbs hW hB hR hr hrn hrb hn hnd hL hP hI hk0 hfit
 go_enter Tryz.func127,Tryz.ntmps127
 go_wp2_with fail
 refine (zoA k z A1 A2 A3 ws.length bs.length rows.length c1 c2 c3 (by omega) (by omega) (by omega) _).mono ?_
 rintro e w1 ⟨rfl,hg⟩
 rw [HND.out]
 replace HI:=LH (HI.out.later hg)
 clear hg
 obtain ⟨ad,Ah,ch,rfl,hcell,_⟩:=RowsU.at_ HI.out.ar.now L hLl
 rw [HP.out] at hcell
 obtain ⟨t0,t1,t2,tf⟩:=zI HI.out.t
 obtain ⟨n0,n1,n2,n3,n4,nf⟩:=zA HI.out.nd
 go_wp2
 refine zE [0,1,2,3,4,7,8,5,6,9,10,11,12] [5,6,9,10,11,12] [0,8] [12] rfl (by kernel_rfl) ?_
 refine oc3 t0 t1 t2 ?_
 iterate 5
  refine ord_p ?_
 refine oc5 n0 n1 n2 n3 n4 ?_
 refine zG rfl rfl rfl rfl rfl Tryz.func197 rfl rfl [.int .i64 a.length,.int .i64 0] rfl ?_
 refine (zSC a.length 0 _).mono ?_
 rintro e w2 ⟨x,rfl,hx0,hx1,hg2⟩
 refine ⟨_,rfl,fun _=>hg2,?_⟩
 simp only [Act.put,pB,pC,pD]
 have HI2:=LH ((HI.out.later (Keep.refl NoB w1).drew).later hg2)
 refine zG rfl rfl rfl rfl rfl Tryz.func194 rfl rfl [.agg #[.slice (some ad) a.length c,.int .i64 size,qL],.int .i64 s,.int .i64 i,.int .u64 x] rfl ?_
 refine (rset2 a (some ad) c size s i x hs (by rw [HI2S.out];exact hi) HLIM.out HNUM.out hx0 hx1 w2 HI2.out.ar).mono ?_
 rintro e w3 ⟨a1,A1',c1',rfl,hg3,har,hlim1,hnum1,hext1,hlen1,heach1,_⟩
 refine ⟨_,rfl,fun _=>hg3,?_⟩
 simp only [Act.put,pB,pC,pD]
 refine zG rfl rfl rfl rfl rfl Tryz.func195 rfl rfl [.agg #[.int .i64 k,.int .i64 z,.slice A1 ws.length c1,.slice A2 bs.length c2,.slice A3 rows.length c3],.int .i64 0] rfl ?_
 refine (zfA k z 0 A1 A2 A3 ws.length bs.length rows.length c1 c2 c3 (by omega) (by omega) (by omega) _).mono ?_
 rintro e w4 ⟨x2,rfl,hy0,hy1,hg4⟩
 refine ⟨_,rfl,fun _=>hg4,?_⟩
 simp only [Act.put,pB,pC,pD]
 refine zh rfl rfl rfl rfl ?_ ?_ ?_ ?_ ?_ ?_
 rotate_left 3
 ·go_simp;first | with_reducible rfl | (constructor <;> with_reducible rfl)
 ·simp only [Act.put,pB,pC,pD];rfl
 have hga:=(Keep.refl NoB w4).alloc (.cells #[.int .u64 x2] 22)
 have hsl2:SliceR 1 (.slice (some ⟨w4.heap.size,0,none⟩) ([x2]:List Int).length 1) ([x2]:List Int).length (u64s [x2]) (w4.alloc (.cells #[.int .u64 x2] 22)):=SliceR.of_block (cs:=#[.int .u64 x2]) (heap_alloc_new w4 _) (Nat.le_refl _) rfl
 have hok2:okW [x2]:=fun y hy=>by rw [List.mem_singleton.1 hy];exact ⟨hy0,hy1⟩
 refine zG rfl rfl rfl rfl rfl Tryz.func196 rfl rfl [.agg #[.slice A1' a1.length c1',.int .i64 size,qL],.int .i64 a.length,.slice (some ⟨w4.heap.size,0,none⟩) 1 1] rfl ?_
 refine (zqB a1 A1' c1' size false a.length [x2] (some ⟨w4.heap.size,0,none⟩) 1 (by omega) (by omega) (fun y hy=>by have:=hlim1.2 y hy;omega) (by simp) (fun _=>hlim1) hnum1 hok2 hz1 _ ((har.grow hg4).grow hga) hsl2).mono ?_
 rintro e w5 ⟨a2,A',c',fl,rfl,hg5,har5,hnum5,hext5,hlen5,hsg5,hal5,hbb5,_,hlim5,_⟩
 refine ⟨_,rfl,fun _=>hg5,?_⟩
 simp only [Act.put,pB,pC,pD]
 have hg35:Grow w3 w5:=(hg4.grow hga).grow hg5
 have HI3:=LH (HI2.out.put (full':=fl) (hg3.grow hg35) har5 (fun j hj=>by
  rcases hj with e2 | e2
  ·rcases e2 with e3 | e3
   ·exact .inl e3
   ·exact .inr e3.1
  ·have h1:=(hg3.grow (hg4.grow hga)).size
   exact .inr (by omega)))
 have hr1:=HI2.out.later (hg3.grow hg35)
 have HTS:Hid (ExtA a a2∧a2.length≤17∧(∀ s∈a2,s.length≤4097)∧NumA a2∧(fl=false→LimA a2)∧a.length<a2.length∧(a2.getD a.length []).length=1):=LH ⟨hext1.trans hext5,by have:=hlim1.1;omega,fun y hy=>hbb5 4096 hlim1.2 y hy,hnum5,hlim5,hsg5,by rw [hlen5,heach1];simp⟩
 obtain ⟨y0,y1,y2,yf⟩:=zI hr1.t
 clear hx0 hx1 hg2 hg3 har hlim1 hnum1 hext1 hlen1 heach1 hy0 hy1 hg4 hga hsl2 hok2 hg5 har5 hnum5 hext5 hlen5 hsg5 hal5 hbb5 hlim5 hg35 hr1 HI2 HI
 refine zJ rfl rfl rfl rfl ?_ ?_ (fun h=>absurd (by simp) h) ?_
 rotate_left
 ·go_simp;with_reducible rfl
 refine zD ?_
 clear y0 y1 y2 yf t0 t1 t2 tf n0 n1 n2 n3 n4 nf hcell
 generalize ((w5.setCell ⟨w.heap.size,0,none⟩ (.slice A' a2.length c')).setCell ⟨w.heap.size,1,none⟩ (.int .i64 size)).setCell ⟨w.heap.size,2,none⟩ (.bool fl)=w4 at HI3 ⊢
 go_wp2
 obtain ⟨t0,t1,t2,tf⟩:=zI HI3.out.t
 obtain ⟨n0,n1,n2,n3,n4,nf⟩:=zA HI3.out.nd
 have HG1:=LH (HI3.out.gr.drew)
 refine zE [0,1,2,3,4,5] [3,4,5] [0,2] [5] rfl (by kernel_rfl) ?_
 refine oc3 t0 t1 t2 ?_
 refine ord_p ?_
 refine oc5 n0 n1 n2 n3 n4 ?_
 refine zG rfl rfl rfl rfl rfl Tryz.func198 rfl rfl [.agg #[.int .i64 k,.int .i64 z,.slice A1 ws.length c1,.slice A2 bs.length c2,.slice A3 rows.length c3]] rfl ?_
 refine (zCB k z ws bs rows.length A1 A2 A3 c1 c2 c3 (by omega) (by omega) (by omega) HWS.out HBS.out _ (HW.out.grow HG1.out) (HB.out.grow HG1.out)).mono ?_
 rintro e w5 ⟨l,Al,cl,rfl,hll,hlw,hg5,hsl5⟩
 refine ⟨_,rfl,fun _=>hg5,?_⟩
 simp only [Act.put,pB,pC,pD]
 have HT5:=LH ((HI3.out.later (Keep.refl NoB w4).drew).later hg5)
 have hlb:l.length≤5000:=by omega
 have hlnd:l.length=nd:=by rw [hll,← HCL.out,HND.out]
 refine zG rfl rfl rfl rfl rfl Tryz.func196 rfl rfl [.agg #[.slice A' a2.length c',.int .i64 size,.bool fl],.int .i64 a.length,.slice Al l.length cl] rfl ?_
 refine (zqB a2 A' c' size fl a.length l Al cl (by have:=HTS.out.2.2.2.2.2.1;omega) (by have:=HTS.out.2.1;omega) (fun y hy=>by have:=HTS.out.2.2.1 y hy;omega) (by omega) (by simpa using HTS.out.2.2.2.2.1) HTS.out.2.2.2.1 hlw hz1 w5 HT5.out.ar hsl5).mono ?_
 rintro e w6 ⟨a3,A5,c5,fl3,rfl,hg6,har6,hnum3,hext3,hlen3,hsg3,_,hbb3,hal3,hlim3,hsm3⟩
 refine ⟨_,rfl,fun _=>hg6,?_⟩
 simp only [Act.put,pB,pC,pD]
 have HT6:=LH (HT5.out.put (full':=fl3) hg6 har6 (fun j hj=>hj.imp id (fun h=>h.1)))
 have hr1:=HT5.out.later hg6
 have HQS:Hid (ExtA a a3∧BigA a3∧NumA a3∧(fl3=false→LimA a3)∧a.length<a3.length∧1+nd≤(a3.getD a.length []).length) :=
  LH ⟨HTS.out.1.trans hext3,⟨by have:=HTS.out.2.1;have:=hal3 HTS.out.2.2.2.2.2.1;omega,fun y hy=>by have:=hbb3 4097 HTS.out.2.2.1 y hy;omega⟩,hnum3,hlim3,hsg3,by rw [hlen3,HTS.out.2.2.2.2.2.2,hlnd];exact Nat.le_refl _⟩
 have HSM3:Hid (SmA (nd+((rows.take 0).map (fun r=>needL l0 r.1)).sum) a size false a3 fl3):=LH (HSMX.out _ _ _ (by omega))
 obtain ⟨y0,y1,y2,yf⟩:=zI hr1.t
 clear hsm3 hg5 hsl5 hg6 har6 hnum3 hext3 hlen3 hsg3 hbb3 hal3 hlim3 hr1 HT5 HI3 HTS hll hlw hlb hlnd
 refine zJ rfl rfl rfl rfl ?_ ?_ (fun h=>absurd (by simp) h) ?_
 rotate_left
 ·go_simp;with_reducible rfl
 refine zD ?_
 clear y0 y1 y2 yf t0 t1 t2 tf n0 n1 n2 n3 n4 nf
 generalize ((w6.setCell ⟨w.heap.size,0,none⟩ (.slice A5 a3.length c5)).setCell ⟨w.heap.size,1,none⟩ (.int .i64 size)).setCell ⟨w.heap.size,2,none⟩ (.bool fl3)=w7 at HT6 ⊢
 have hkn:rows.length≤nd:=by rw [← HND.out,HCL.out];omega
 have hwa:IntKind.i64.wrap ((1:Int)+nd)=(1:Int)+nd:=IntWalk.i64_in _ (by omega)
 have hwb:IntKind.i64.wrap ((1:Int)+nd-rows.length)=(1:Int)+nd-rows.length:=IntWalk.i64_in _ (by omega)
 go_wp2
 go_loopw [14] (fun v wr=>∃ (j:Nat) (a4:List (List Int)) (A4:Option Addr) (c4:Nat) (fl4:Bool) (F4:Nat→Prop),j≤rows.length∧v=.int .i64 j∧Hid (LI w (.cells #[.int .i64 k,.int .i64 z,.slice A1 ws.length c1,.slice A2 bs.length c2,.slice A3 rows.length c3] 114) F a4 A4 c4 size fl4 F4 wr∧ExtA a a4∧BigA a4∧NumA a4∧(fl4=false→LimA a4)∧a.length<a4.length∧1+nd≤(a4.getD a.length []).length)∧Hid (SmA (nd+((rows.take j).map (fun r=>needL l0 r.1)).sum) a size false a4 fl4)) (fun v _=>rows.length-(intOf v).toNat)
 case atStart=>exact ⟨0,a3,A5,c5,fl3,_,by omega,rfl,LH ⟨HT6.out,HQS.out⟩,HSM3⟩
 case round =>
  clear HT6 HQS
  obtain ⟨j,a4,A4,c4,fl4,F4,hj,rfl,HH,HSM4⟩:=hrel
  obtain ⟨t0,t1,t2,tf⟩:=zI HH.out.1.t
  obtain ⟨n0,n1,n2,n3,n4,nf⟩:=zA HH.out.1.nd
  by_cases hlt:j<rows.length
  ·have hlt':(j:Int)<rows.length:=by omega
   have hwj:IntKind.i64.wrap ((j:Int)+1)=(j:Int)+1:=IntWalk.i64_in _ (by omega)
   obtain ⟨Q,hQ⟩:∃ Q:Nat,1+nd-rows.length+j=Q:=⟨_,rfl⟩
   have hwc:IntKind.i64.wrap ((1:Int)+nd-rows.length+j)=(Q:Int):=by rw [IntWalk.i64_in _ (by omega)];omega
   have hQl:Q<(a4.getD a.length []).length:=by have:=HH.out.2.2.2.2.2.2;omega
   obtain ⟨a3d,rfl,q0,q1,q2,q3,q4⟩:=zuA (HR.out.grow HH.out.1.gr) j hlt
   have hT:=(HRR.out _ (List.getElem_mem hlt)).grow HH.out.1.gr.drew
   obtain ⟨B1,g1,B2,g2,B3,g3,e1,e2,e3⟩:=hT.parts
   rw [e1] at q2
   rw [e2] at q3
   rw [e3] at q4
   have hIH:=HIH.out rows[j].1 _ _ _ a4 size fl4 A4 c4 a.length Q wr.drew F4 hT (HRN.out _ (List.getElem_mem hlt)) (HRB.out _ (List.getElem_mem hlt)) (HH.out.1.ar.grow (Keep.refl NoB wr).drew) HH.out.2.2.1 HH.out.2.2.2.1 HH.out.2.2.2.2.1 hz0 hz1 HH.out.2.2.2.2.2.1 hQl
   rw [e1,e2,e3] at hIH
   have HCALL:=LH hIH
   clear hIH hT e1 e2 e3 hQ
   go_wp2
   refine zE [0,1,2,3,4,5,6,7,8,9,10,11,12,13,14,15,16,17] [16,17] [0,2,5,11] [17] rfl (by kernel_rfl) ?_
   refine oc3 t0 t1 t2 ?_
   refine ord_p ?_
   refine oc1 n4 ?_
   iterate 2
    refine ord_p ?_
   refine ord_r (y:=by intro w' hg;have p0:=hg.cell q0 (fun h=>h);have p1:=hg.cell q1 (fun h=>h);have p2:=hg.cell q2 (fun h=>h);have p3:=hg.cell q3 (fun h=>h);have p4:=hg.cell q4 (fun h=>h);go_simp;with_reducible rfl) (z:=?_)
   iterate 5
    refine ord_p ?_
   refine oc1 n4 ?_
   iterate 4
    refine ord_p ?_
   refine zG rfl rfl rfl rfl rfl Tryz.func127 rfl rfl [.agg #[.slice A4 a4.length c4,.int .i64 size,.bool fl4],.agg #[.int .i64 rows[j].1.kind,.int .i64 rows[j].1.size,.slice B1 rows[j].1.ws.length g1,.slice B2 rows[j].1.bs.length g2,.slice B3 rows[j].1.kids.length g3],.int .i64 a.length,.int .i64 Q] rfl ?_
   refine HCALL.out.mono ?_
   rintro e w8 ⟨a5,fl5,A6,c6,F5,rfl,hg8,har8,hF8,hext5,hbig5,hnum5,hlim5,hsm5⟩
   refine ⟨_,rfl,fun _=>hg8,?_⟩
   simp only [Act.put,pB,pC,pD]
   have HI8:=LH ((HH.out.1.later (Keep.refl NoB wr).drew).put (full':=fl5) hg8 har8 hF8)
   have hr1:=(HH.out.1.later (Keep.refl NoB wr).drew).later hg8
   have HQ5:Hid (ExtA a a5∧BigA a5∧NumA a5∧(fl5=false→LimA a5)∧a.length<a5.length∧1+nd≤(a5.getD a.length []).length):=LH ⟨HH.out.2.1.trans hext5,hbig5,hnum5,hlim5,Nat.lt_of_lt_of_le HH.out.2.2.2.2.2.1 hext5.1,Nat.le_trans HH.out.2.2.2.2.2.2 (hext5.2 _ HH.out.2.2.2.2.2.1)⟩
   obtain ⟨y0,y1,y2,yf⟩:=zI hr1.t
   have HSM5:Hid (SmA (nd+((rows.take (j+1)).map (fun r=>needL l0 r.1)).sum) a size false a5 fl5):=LH (HSMX.out _ _ _ (by omega))
   clear hg8 har8 hF8 hext5 hbig5 hnum5 hlim5 hsm5 hr1 HCALL HSM4
   refine zJ rfl rfl rfl rfl ?_ ?_ (fun h=>absurd (by simp) h) ?_
   rotate_left
   ·go_simp;with_reducible rfl
   refine zD ?_
   clear y0 y1 y2 yf t0 t1 t2 tf n0 n1 n2 n3 n4 nf q0 q1 q2 q3 q4 HH
   generalize ((w8.setCell ⟨w.heap.size,0,none⟩ (.slice A6 a5.length c6)).setCell ⟨w.heap.size,1,none⟩ (.int .i64 size)).setCell ⟨w.heap.size,2,none⟩ (.bool fl5)=w9 at HI8 ⊢
   go_wp2
   go_roundw
   case rel=>exact ⟨j+1,a5,A6,c6,fl5,F5,by omega,by go_num,LH ⟨HI8.out,HQ5.out⟩,HSM5⟩
   case measure=>simp [intOf];omega
  ·obtain rfl:j=rows.length:=by omega
   have hlt':¬ ((rows.length:Int)<rows.length):=by omega
   obtain ⟨y0,y1,y2,yf⟩:=zI HH.out.1.r
   have hk5:=three wr (w.heap.size+2) (.slice A4 a4.length c4) (.int .i64 size) (.bool fl4)
   have HFIN:Hid (LayPost (needN k ws.length bs.length rows.length+(rows.map (fun r=>needL l0 r.1)).sum) a size false F w (.returned (.agg #[.slice A4 a4.length c4,.int .i64 size,.bool fl4])) (((wr.setCell ⟨w.heap.size+2,0,none⟩ (.slice A4 a4.length c4)).setCell ⟨w.heap.size+2,1,none⟩ (.int .i64 size)).setCell ⟨w.heap.size+2,2,none⟩ (.bool fl4))) :=
    LH ⟨a4,fl4,A4,c4,F4,rfl,HH.out.1.gr.trans hk5 (fun i hi=>.inr (by omega)),HH.out.1.ar.keep hk5 (fun i hi e=>by have:=HH.out.1.fd i hi;omega),HH.out.1.ff,HH.out.2.1,HH.out.2.2.1,HH.out.2.2.2.1,HH.out.2.2.2.2.1,by rw [HND.out];simpa using HSM4.out⟩
   have hput:=put3 (.slice A4 a4.length c4) (.int .i64 size) (.bool fl4) HH.out.1.r
   clear hk5
   obtain ⟨x0,x1,x2,xf⟩:=zI hput
   clear hput HH HSM4
   go_wp2
   refine bodyPost_ret (v:=.agg #[.slice A4 a4.length c4,.int .i64 size,.bool fl4]) ?_ rfl HFIN.out
   rw [zO rfl];go_simp
theorem zpK (l0:Nat) (ih:LayAt l0) (k z:Int) (ws bs:List Int) (rows:List (Tr×Value×Value×Value)) (A1 A2 A3:Option Addr) (c1 c2 c3:Nat) (h1:ws.length≤10000) (h2:bs.length≤10000) (h3:rows.length≤10000) (hk0:k≠0) (a:List (List Int)) (size:Int) (A:Option Addr) (c s i:Nat) (w:World) (F:Nat→Prop) (hF:Foot (RowsU a (.slice A a.length c)) w F) (hlim:LimA a) (hnum:NumA a) (hz0:0≤size) (hz1:size≤4096) (hs:s<a.length) (hi:i<a[s].length)
    (hcl:needN k ws.length bs.length rows.length=ws.length+(bs.length+7)/8+rows.length) (hn:needN k ws.length bs.length rows.length≠0) (hnb:ws.length+(bs.length+7)/8+rows.length≤5000) (hws:okW ws) (hbs:∀ x∈bs,0≤x∧x≤255) (hW:SliceR 1 (.slice A1 ws.length c1) ws.length (u64s ws) w) (hB:SliceR 1 (.slice A2 bs.length c2) bs.length (u8s bs) w) (hR:SliceR 5 (.slice A3 rows.length c3) rows.length (kcs rows) w) (hr:∀ r,r∈rows→TrR w r.1 r.2.1 r.2.2.1 r.2.2.2) (hrn:∀ r,r∈rows→TrN r.1) (hrb:∀ r,r∈rows→rightB l0 r.1=true) (hsl:s+1≠a.length) (hfit:(a[a.length-1].length:Int)+needN k ws.length bs.length rows.length+1≤size) :
    Calls Tryz.prog 127 #[.agg #[.slice A a.length c,.int .i64 size,qL],.agg #[.int .i64 k,.int .i64 z,.slice A1 ws.length c1,.slice A2 bs.length c2,.slice A3 rows.length c3],.int .i64 s,.int .i64 i] w (LayPost (needN k ws.length bs.length rows.length+(rows.map (fun r=>needL l0 r.1)).sum) a size false F w):=by
 have HI:Hid (LI w (.cells #[.int .i64 k,.int .i64 z,.slice A1 ws.length c1,.slice A2 bs.length c2,.slice A3 rows.length c3] 114) F a A c size false F _):=LH (LI.start hF)
 have HLIM:=LH hlim
 have HNUM:=LH hnum
 have HIH:=LH ih
 have HCL:=LH hcl
 have HWS:=LH hws
 have HBS:=LH hbs
 have HW:=LH hW
 have HB:=LH hB
 have HR:=LH hR
 have HRR:=LH hr
 have HRN:=LH hrn
 have HRB:=LH hrb
 have HA0:=LH (ExtA.refl a)
 have hkb:(k==0)=false:=beq_eq_false_iff_ne.2 hk0
 have hl16:=hlim.1
 have hi4:=hlim.2 _ (List.getElem_mem hs)
 obtain ⟨nd,hnd⟩:∃ nd,needN k ws.length bs.length rows.length=nd:=⟨_,rfl⟩
 have HND:=LH hnd
 have hndb:nd≤5000:=by omega
 have hnd0:((nd:Int)==0)=false:=beq_eq_false_iff_ne.2 (by omega)
 obtain ⟨L,hL⟩:∃ L,a.length=L+1:=⟨a.length-1,by omega⟩
 have hLl:L<a.length:=by omega
 have hLi:(L:Int)<a.length:=by omega
 have hwL:IntKind.i64.wrap ((a.length:Int)-1)=(L:Int):=by rw [IntWalk.i64_in _ (by omega)];omega
 have HL:=LH hL
 obtain ⟨P,hP⟩:∃ P,a[L].length=P:=⟨_,rfl⟩
 have HP:=LH hP
 have hPb:P≤4096:=by rw [← hP];exact hlim.2 _ (List.getElem_mem hLl)
 have hwP:IntKind.i64.wrap ((P:Int)+nd)=(P:Int)+nd:=IntWalk.i64_in _ (by omega)
 obtain ⟨I,hI⟩:∃ I,a[s].length=I:=⟨_,rfl⟩
 rw [hI] at hi hi4
 have HI2S:=LH hI
 have hPL:a[a.length-1].length=P:=by rw [← hP];congr 2;omega
 rw [hPL,hnd] at hfit
 have hsb:((s:Int)==L)=false:=beq_eq_false_iff_ne.2 (by omega)
 have hwP1:IntKind.i64.wrap ((P:Int)+nd+1)=(P:Int)+nd+1:=IntWalk.i64_in _ (by omega)
 have hf2:decide (size<(P:Int)+nd+1)=false:=by rw [decide_eq_false_iff_not];omega
 clear hPL
 obtain ⟨P1,hP1⟩:∃ P1,P+1=P1:=⟨_,rfl⟩
 have hw18:IntKind.i64.wrap ((P:Int)+1)=(P1:Int):=by rw [IntWalk.i64_in _ (by omega)];omega
 have hP1b:P1≤4097:=by omega
 have HP1:=LH hP1
 clear hP1
 have HSMX:Hid (∀ (n:Nat) (b:List (List Int)) (f:Bool),nd≤n→SmA n a size false b f):=LH (fun n b f hn9 _ h1 h2=>by
  exfalso;omega)
 clear hF hlim hnum ih hcl hws hbs hW hB hR hr hrn hrb hn hnd hL hP hI hk0 hfit
 go_enter Tryz.func127,Tryz.ntmps127
 go_wp2_with fail
 refine (zoA k z A1 A2 A3 ws.length bs.length rows.length c1 c2 c3 (by omega) (by omega) (by omega) _).mono ?_
 rintro e w1 ⟨rfl,hg⟩
 rw [HND.out]
 replace HI:=LH (HI.out.later hg)
 clear hg
 obtain ⟨ad,Ah,ch,rfl,hcell,_⟩:=RowsU.at_ HI.out.ar.now L hLl
 rw [HP.out] at hcell
 obtain ⟨t0,t1,t2,tf⟩:=zI HI.out.t
 obtain ⟨n0,n1,n2,n3,n4,nf⟩:=zA HI.out.nd
 go_wp2
 refine zE [0,1,2,3,4,7,8,5,6,9,10,11,12] [5,6,9,10,11,12] [0,8] [12] rfl (by kernel_rfl) ?_
 refine oc3 t0 t1 t2 ?_
 iterate 5
  refine ord_p ?_
 refine oc5 n0 n1 n2 n3 n4 ?_
 refine zG rfl rfl rfl rfl rfl Tryz.func197 rfl rfl [.int .i64 L,.int .i64 P] rfl ?_
 refine (zSC L P _).mono ?_
 rintro e w2 ⟨x,rfl,hx0,hx1,hg2⟩
 refine ⟨_,rfl,fun _=>hg2,?_⟩
 simp only [Act.put,pB,pC,pD]
 have HI2:=LH ((HI.out.later (Keep.refl NoB w1).drew).later hg2)
 refine zG rfl rfl rfl rfl rfl Tryz.func194 rfl rfl [.agg #[.slice (some ad) a.length c,.int .i64 size,qL],.int .i64 s,.int .i64 i,.int .u64 x] rfl ?_
 refine (rset2 a (some ad) c size s i x hs (by rw [HI2S.out];exact hi) HLIM.out HNUM.out hx0 hx1 w2 HI2.out.ar).mono ?_
 rintro e w3 ⟨a1,A1',c1',rfl,hg3,har,hlim1,hnum1,hext1,hlen1,heach1,_⟩
 refine ⟨_,rfl,fun _=>hg3,?_⟩
 simp only [Act.put,pB,pC,pD]
 refine zG rfl rfl rfl rfl rfl Tryz.func195 rfl rfl [.agg #[.int .i64 k,.int .i64 z,.slice A1 ws.length c1,.slice A2 bs.length c2,.slice A3 rows.length c3],.int .i64 0] rfl ?_
 refine (zfA k z 0 A1 A2 A3 ws.length bs.length rows.length c1 c2 c3 (by omega) (by omega) (by omega) _).mono ?_
 rintro e w4 ⟨x2,rfl,hy0,hy1,hg4⟩
 refine ⟨_,rfl,fun _=>hg4,?_⟩
 simp only [Act.put,pB,pC,pD]
 refine zh rfl rfl rfl rfl ?_ ?_ ?_ ?_ ?_ ?_
 rotate_left 3
 ·go_simp;first | with_reducible rfl | (constructor <;> with_reducible rfl)
 ·simp only [Act.put,pB,pC,pD];rfl
 have hga:=(Keep.refl NoB w4).alloc (.cells #[.int .u64 x2] 22)
 have hsl2:SliceR 1 (.slice (some ⟨w4.heap.size,0,none⟩) ([x2]:List Int).length 1) ([x2]:List Int).length (u64s [x2]) (w4.alloc (.cells #[.int .u64 x2] 22)):=SliceR.of_block (cs:=#[.int .u64 x2]) (heap_alloc_new w4 _) (Nat.le_refl _) rfl
 have hok2:okW [x2]:=fun y hy=>by rw [List.mem_singleton.1 hy];exact ⟨hy0,hy1⟩
 refine zG rfl rfl rfl rfl rfl Tryz.func196 rfl rfl [.agg #[.slice A1' a1.length c1',.int .i64 size,qL],.int .i64 L,.slice (some ⟨w4.heap.size,0,none⟩) 1 1] rfl ?_
 refine (zqB a1 A1' c1' size false L [x2] (some ⟨w4.heap.size,0,none⟩) 1 (by omega) (by omega) (fun y hy=>by have:=hlim1.2 y hy;omega) (by simp) (fun _=>hlim1) hnum1 hok2 hz1 _ ((har.grow hg4).grow hga) hsl2).mono ?_
 rintro e w5 ⟨a2,A',c',fl,rfl,hg5,har5,hnum5,hext5,hlen5,hsg5,hal5,hbb5,_,hlim5,_⟩
 refine ⟨_,rfl,fun _=>hg5,?_⟩
 simp only [Act.put,pB,pC,pD]
 have hg35:Grow w3 w5:=(hg4.grow hga).grow hg5
 have HI3:=LH (HI2.out.put (full':=fl) (hg3.grow hg35) har5 (fun j hj=>by
  rcases hj with e2 | e2
  ·rcases e2 with e3 | e3
   ·exact .inl e3
   ·exact .inr e3.1
  ·have h1:=(hg3.grow (hg4.grow hga)).size
   exact .inr (by omega)))
 have hr1:=HI2.out.later (hg3.grow hg35)
 have HTS:Hid (ExtA a a2∧a2.length≤17∧(∀ s∈a2,s.length≤4097)∧NumA a2∧(fl=false→LimA a2)∧L<a2.length∧(a2.getD L []).length=P1):=LH ⟨hext1.trans hext5,by have:=hlim1.1;omega,fun y hy=>hbb5 4096 hlim1.2 y hy,hnum5,hlim5,hsg5,by rw [hlen5,heach1];have:=HP.out;have:=HP1.out;simp [hLl];omega⟩
 obtain ⟨y0,y1,y2,yf⟩:=zI hr1.t
 clear hx0 hx1 hg2 hg3 har hlim1 hnum1 hext1 hlen1 heach1 hy0 hy1 hg4 hga hsl2 hok2 hg5 har5 hnum5 hext5 hlen5 hsg5 hal5 hbb5 hlim5 hg35 hr1 HI2 HI
 refine zJ rfl rfl rfl rfl ?_ ?_ (fun h=>absurd (by simp) h) ?_
 rotate_left
 ·go_simp;with_reducible rfl
 refine zD ?_
 clear y0 y1 y2 yf t0 t1 t2 tf n0 n1 n2 n3 n4 nf hcell
 generalize ((w5.setCell ⟨w.heap.size,0,none⟩ (.slice A' a2.length c')).setCell ⟨w.heap.size,1,none⟩ (.int .i64 size)).setCell ⟨w.heap.size,2,none⟩ (.bool fl)=w4 at HI3 ⊢
 go_wp2
 obtain ⟨t0,t1,t2,tf⟩:=zI HI3.out.t
 obtain ⟨n0,n1,n2,n3,n4,nf⟩:=zA HI3.out.nd
 have HG1:=LH (HI3.out.gr.drew)
 refine zE [0,1,2,3,4,5] [3,4,5] [0,2] [5] rfl (by kernel_rfl) ?_
 refine oc3 t0 t1 t2 ?_
 refine ord_p ?_
 refine oc5 n0 n1 n2 n3 n4 ?_
 refine zG rfl rfl rfl rfl rfl Tryz.func198 rfl rfl [.agg #[.int .i64 k,.int .i64 z,.slice A1 ws.length c1,.slice A2 bs.length c2,.slice A3 rows.length c3]] rfl ?_
 refine (zCB k z ws bs rows.length A1 A2 A3 c1 c2 c3 (by omega) (by omega) (by omega) HWS.out HBS.out _ (HW.out.grow HG1.out) (HB.out.grow HG1.out)).mono ?_
 rintro e w5 ⟨l,Al,cl,rfl,hll,hlw,hg5,hsl5⟩
 refine ⟨_,rfl,fun _=>hg5,?_⟩
 simp only [Act.put,pB,pC,pD]
 have HT5:=LH ((HI3.out.later (Keep.refl NoB w4).drew).later hg5)
 have hlb:l.length≤5000:=by omega
 have hlnd:l.length=nd:=by rw [hll,← HCL.out,HND.out]
 refine zG rfl rfl rfl rfl rfl Tryz.func196 rfl rfl [.agg #[.slice A' a2.length c',.int .i64 size,.bool fl],.int .i64 L,.slice Al l.length cl] rfl ?_
 refine (zqB a2 A' c' size fl L l Al cl (by have:=HTS.out.2.2.2.2.2.1;omega) (by have:=HTS.out.2.1;omega) (fun y hy=>by have:=HTS.out.2.2.1 y hy;omega) (by omega) (by simpa using HTS.out.2.2.2.2.1) HTS.out.2.2.2.1 hlw hz1 w5 HT5.out.ar hsl5).mono ?_
 rintro e w6 ⟨a3,A5,c5,fl3,rfl,hg6,har6,hnum3,hext3,hlen3,hsg3,_,hbb3,hal3,hlim3,hsm3⟩
 refine ⟨_,rfl,fun _=>hg6,?_⟩
 simp only [Act.put,pB,pC,pD]
 have HT6:=LH (HT5.out.put (full':=fl3) hg6 har6 (fun j hj=>hj.imp id (fun h=>h.1)))
 have hr1:=HT5.out.later hg6
 have HQS:Hid (ExtA a a3∧BigA a3∧NumA a3∧(fl3=false→LimA a3)∧L<a3.length∧P1+nd≤(a3.getD L []).length) :=
  LH ⟨HTS.out.1.trans hext3,⟨by have:=HTS.out.2.1;have:=hal3 HTS.out.2.2.2.2.2.1;omega,fun y hy=>by have:=hbb3 4097 HTS.out.2.2.1 y hy;omega⟩,hnum3,hlim3,hsg3,by rw [hlen3,HTS.out.2.2.2.2.2.2,hlnd];exact Nat.le_refl _⟩
 have HSM3:Hid (SmA (nd+((rows.take 0).map (fun r=>needL l0 r.1)).sum) a size false a3 fl3):=LH (HSMX.out _ _ _ (by omega))
 obtain ⟨y0,y1,y2,yf⟩:=zI hr1.t
 clear hsm3 hg5 hsl5 hg6 har6 hnum3 hext3 hlen3 hsg3 hbb3 hal3 hlim3 hr1 HT5 HI3 HTS hll hlw hlb hlnd
 refine zJ rfl rfl rfl rfl ?_ ?_ (fun h=>absurd (by simp) h) ?_
 rotate_left
 ·go_simp;with_reducible rfl
 refine zD ?_
 clear y0 y1 y2 yf t0 t1 t2 tf n0 n1 n2 n3 n4 nf
 generalize ((w6.setCell ⟨w.heap.size,0,none⟩ (.slice A5 a3.length c5)).setCell ⟨w.heap.size,1,none⟩ (.int .i64 size)).setCell ⟨w.heap.size,2,none⟩ (.bool fl3)=w7 at HT6 ⊢
 have hkn:rows.length≤nd:=by rw [← HND.out,HCL.out];omega
 have hwa:IntKind.i64.wrap ((P1:Int)+nd)=(P1:Int)+nd:=IntWalk.i64_in _ (by omega)
 have hwb:IntKind.i64.wrap ((P1:Int)+nd-rows.length)=(P1:Int)+nd-rows.length:=IntWalk.i64_in _ (by omega)
 go_wp2
 go_loopw [14] (fun v wr=>∃ (j:Nat) (a4:List (List Int)) (A4:Option Addr) (c4:Nat) (fl4:Bool) (F4:Nat→Prop),j≤rows.length∧v=.int .i64 j∧Hid (LI w (.cells #[.int .i64 k,.int .i64 z,.slice A1 ws.length c1,.slice A2 bs.length c2,.slice A3 rows.length c3] 114) F a4 A4 c4 size fl4 F4 wr∧ExtA a a4∧BigA a4∧NumA a4∧(fl4=false→LimA a4)∧L<a4.length∧P1+nd≤(a4.getD L []).length)∧Hid (SmA (nd+((rows.take j).map (fun r=>needL l0 r.1)).sum) a size false a4 fl4)) (fun v _=>rows.length-(intOf v).toNat)
 case atStart=>exact ⟨0,a3,A5,c5,fl3,_,by omega,rfl,LH ⟨HT6.out,HQS.out⟩,HSM3⟩
 case round =>
  clear HT6 HQS
  obtain ⟨j,a4,A4,c4,fl4,F4,hj,rfl,HH,HSM4⟩:=hrel
  obtain ⟨t0,t1,t2,tf⟩:=zI HH.out.1.t
  obtain ⟨n0,n1,n2,n3,n4,nf⟩:=zA HH.out.1.nd
  by_cases hlt:j<rows.length
  ·have hlt':(j:Int)<rows.length:=by omega
   have hwj:IntKind.i64.wrap ((j:Int)+1)=(j:Int)+1:=IntWalk.i64_in _ (by omega)
   obtain ⟨Q,hQ⟩:∃ Q:Nat,P1+nd-rows.length+j=Q:=⟨_,rfl⟩
   have hwc:IntKind.i64.wrap ((P1:Int)+nd-rows.length+j)=(Q:Int):=by rw [IntWalk.i64_in _ (by omega)];omega
   have hQl:Q<(a4.getD L []).length:=by have:=HH.out.2.2.2.2.2.2;omega
   obtain ⟨a3d,rfl,q0,q1,q2,q3,q4⟩:=zuA (HR.out.grow HH.out.1.gr) j hlt
   have hT:=(HRR.out _ (List.getElem_mem hlt)).grow HH.out.1.gr.drew
   obtain ⟨B1,g1,B2,g2,B3,g3,e1,e2,e3⟩:=hT.parts
   rw [e1] at q2
   rw [e2] at q3
   rw [e3] at q4
   have hIH:=HIH.out rows[j].1 _ _ _ a4 size fl4 A4 c4 L Q wr.drew F4 hT (HRN.out _ (List.getElem_mem hlt)) (HRB.out _ (List.getElem_mem hlt)) (HH.out.1.ar.grow (Keep.refl NoB wr).drew) HH.out.2.2.1 HH.out.2.2.2.1 HH.out.2.2.2.2.1 hz0 hz1 HH.out.2.2.2.2.2.1 hQl
   rw [e1,e2,e3] at hIH
   have HCALL:=LH hIH
   clear hIH hT e1 e2 e3 hQ
   go_wp2
   refine zE [0,1,2,3,4,5,6,7,8,9,10,11,12,13,14,15,16,17] [16,17] [0,2,5,11] [17] rfl (by kernel_rfl) ?_
   refine oc3 t0 t1 t2 ?_
   refine ord_p ?_
   refine oc1 n4 ?_
   iterate 2
    refine ord_p ?_
   refine ord_r (y:=by intro w' hg;have p0:=hg.cell q0 (fun h=>h);have p1:=hg.cell q1 (fun h=>h);have p2:=hg.cell q2 (fun h=>h);have p3:=hg.cell q3 (fun h=>h);have p4:=hg.cell q4 (fun h=>h);go_simp;with_reducible rfl) (z:=?_)
   iterate 5
    refine ord_p ?_
   refine oc1 n4 ?_
   iterate 4
    refine ord_p ?_
   refine zG rfl rfl rfl rfl rfl Tryz.func127 rfl rfl [.agg #[.slice A4 a4.length c4,.int .i64 size,.bool fl4],.agg #[.int .i64 rows[j].1.kind,.int .i64 rows[j].1.size,.slice B1 rows[j].1.ws.length g1,.slice B2 rows[j].1.bs.length g2,.slice B3 rows[j].1.kids.length g3],.int .i64 L,.int .i64 Q] rfl ?_
   refine HCALL.out.mono ?_
   rintro e w8 ⟨a5,fl5,A6,c6,F5,rfl,hg8,har8,hF8,hext5,hbig5,hnum5,hlim5,hsm5⟩
   refine ⟨_,rfl,fun _=>hg8,?_⟩
   simp only [Act.put,pB,pC,pD]
   have HI8:=LH ((HH.out.1.later (Keep.refl NoB wr).drew).put (full':=fl5) hg8 har8 hF8)
   have hr1:=(HH.out.1.later (Keep.refl NoB wr).drew).later hg8
   have HQ5:Hid (ExtA a a5∧BigA a5∧NumA a5∧(fl5=false→LimA a5)∧L<a5.length∧P1+nd≤(a5.getD L []).length):=LH ⟨HH.out.2.1.trans hext5,hbig5,hnum5,hlim5,Nat.lt_of_lt_of_le HH.out.2.2.2.2.2.1 hext5.1,Nat.le_trans HH.out.2.2.2.2.2.2 (hext5.2 _ HH.out.2.2.2.2.2.1)⟩
   obtain ⟨y0,y1,y2,yf⟩:=zI hr1.t
   have HSM5:Hid (SmA (nd+((rows.take (j+1)).map (fun r=>needL l0 r.1)).sum) a size false a5 fl5):=LH (HSMX.out _ _ _ (by omega))
   clear hg8 har8 hF8 hext5 hbig5 hnum5 hlim5 hsm5 hr1 HCALL HSM4
   refine zJ rfl rfl rfl rfl ?_ ?_ (fun h=>absurd (by simp) h) ?_
   rotate_left
   ·go_simp;with_reducible rfl
   refine zD ?_
   clear y0 y1 y2 yf t0 t1 t2 tf n0 n1 n2 n3 n4 nf q0 q1 q2 q3 q4 HH
   generalize ((w8.setCell ⟨w.heap.size,0,none⟩ (.slice A6 a5.length c6)).setCell ⟨w.heap.size,1,none⟩ (.int .i64 size)).setCell ⟨w.heap.size,2,none⟩ (.bool fl5)=w9 at HI8 ⊢
   go_wp2
   go_roundw
   case rel=>exact ⟨j+1,a5,A6,c6,fl5,F5,by omega,by go_num,LH ⟨HI8.out,HQ5.out⟩,HSM5⟩
   case measure=>simp [intOf];omega
  ·obtain rfl:j=rows.length:=by omega
   have hlt':¬ ((rows.length:Int)<rows.length):=by omega
   obtain ⟨y0,y1,y2,yf⟩:=zI HH.out.1.r
   have hk5:=three wr (w.heap.size+2) (.slice A4 a4.length c4) (.int .i64 size) (.bool fl4)
   have HFIN:Hid (LayPost (needN k ws.length bs.length rows.length+(rows.map (fun r=>needL l0 r.1)).sum) a size false F w (.returned (.agg #[.slice A4 a4.length c4,.int .i64 size,.bool fl4])) (((wr.setCell ⟨w.heap.size+2,0,none⟩ (.slice A4 a4.length c4)).setCell ⟨w.heap.size+2,1,none⟩ (.int .i64 size)).setCell ⟨w.heap.size+2,2,none⟩ (.bool fl4))) :=
    LH ⟨a4,fl4,A4,c4,F4,rfl,HH.out.1.gr.trans hk5 (fun i hi=>.inr (by omega)),HH.out.1.ar.keep hk5 (fun i hi e=>by have:=HH.out.1.fd i hi;omega),HH.out.1.ff,HH.out.2.1,HH.out.2.2.1,HH.out.2.2.2.1,HH.out.2.2.2.2.1,by rw [HND.out];simpa using HSM4.out⟩
   have hput:=put3 (.slice A4 a4.length c4) (.int .i64 size) (.bool fl4) HH.out.1.r
   clear hk5
   obtain ⟨x0,x1,x2,xf⟩:=zI hput
   clear hput HH HSM4
   go_wp2
   refine bodyPost_ret (v:=.agg #[.slice A4 a4.length c4,.int .i64 size,.bool fl4]) ?_ rfl HFIN.out
   rw [zO rfl];go_simp
end Go.Proofs.YtfkcpaahdlkcdaaGreat

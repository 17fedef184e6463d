import Derived.Test.YtfkcpaahdlkcdaaGreatRRecvReads07
set_option linter.unusedSimpArgs false
set_option linter.unusedVariables false
set_option maxRecDepth 100000
set_option maxHeartbeats 16000000
namespace Go.Proofs.YtfkcpaahdlkcdaaGreat
open Go.RowKit
theorem zcL {sz:List Int} {wd:Int→Int→Int×Int} (ho:SouOk sz wd) {l:Nat} (IH:Hid (NodeAt sz wd l)) (hll:l≤1000) (sv:Value) (W0:World) (D:Nat) (paid seg at_:Int) (w:World) (hS:Sou sv sz wd W0) (hD:Dec D sv paid w) (hD0:W0.heap.size≤D) (hg:Grow W0 w) (p0:0≤paid) (p1:paid≤8192) (hcase:(followP sz wd seg at_).1.size=2) (hkz:(followP sz wd seg at_).1.kind≠0) :
    Calls Tryz.prog 244 #[.pointer (some ⟨D,0,none⟩),.int .i64 seg,.int .i64 at_,.int .i64 (l+1:Nat)] w (NPost (nodeP sz wd (l+1) seg at_ paid) D sv w):=by
 obtain ⟨T,pv,fw,fs,r,rfl,-⟩:=hS.out
 have HSO:=LH ho
 have HS0:=LH hS
 have hg0:=(Keep.refl NoB w).alloc (.cells qA 114)
 have HS:=LH (hS.grow (hg.grow hg0))
 have dc0:=(hD.grow hg0).c0
 have HD:=LH (And.intro hD (And.intro hD0 hg))
 have E0:Hid (nodeP sz wd (l+1) seg at_ paid=nodeS sz wd false (nodeP sz wd l) seg at_ paid):=LH rfl
 clear hS hD hD0 hg hg0 ho
 go_enter Tryz.func244,Tryz.ntmps244
 go_wp2_with fail
 refine (zy HS.out HSO.out seg at_).mono ?_
 rintro e w1 ⟨rfl,hg1⟩
 have HO:=LH (zd HSO.out seg at_)
 unfold nodeS at E0
 generalize (followP sz wd seg at_).1=o at *
 generalize (followP sz wd seg at_).2=fe at *
 have HNS:=LH (zWB (o:=o) HD.out.1 HD.out.2.1 HD.out.2.2 hg1)
 clear hg1 dc0
 have HC:=LH hcase
 have HKZ:=LH hkz
 clear hcase hkz
 by_cases he:fe=0
 case neg =>
  have eb:(fe != 0)=true:=by simp [he]
  have E:=LH (E0.out.trans (if_neg he))
  clear he
  obtain ⟨n0,n1,n2,n3,n4,nf⟩:=zA HNS.out.nod
  have HNE:=LH (HNS.out.all (.int .i64 0) (.int .i64 0) (.slice none 0 0) (.slice none 0 0) (.slice none 0 0))
  go_wp2
  (try simp only [Exit.inBlock,Exit.then])
  obtain ⟨r0,r1,r2,r3,r4,rf⟩:=zA HNE.out.nod
  refine bodyPost_ret (v:=.tuple #[.agg qA,.int .u16 fe]) ?_ rfl (zk HNE.out (er:=fe) E.out)
  rw [results_cell_tmp rfl];go_simp
 subst he
 replace E0:=LH (E0.out.trans (if_pos (by simp)))
 replace E0:=LH (E0.out.trans (if_neg (by simp)))
 obtain ⟨o0,o1,o2,o3,o4,o5,o6,of⟩:=zC HNS.out.drew.obj
 have hD1:=HNS.out.drew.dec.c1
 have hDf:=zN 1 HNS.out.drew.dec
 have hDc0:=HNS.out.drew.dec.c0
 have how:=za HO.out
 have hw0:=how.1
 have hw1:=how.2
 have HNP:=LH (HNS.out.drew)
 have hs1:IntKind.i64.wrap (1+obWords o)=1+obWords o:=IntWalk.i64_in _ (by omega)
 have hs2:IntKind.i64.wrap (paid+(1+obWords o))=paid+(1+obWords o):=IntWalk.i64_in _ (by omega)
 clear how
 go_wp2
 refine zE [0,1,2,3,4,5,6,7,8,9,10] [5,10] [3,4] [10] rfl (by kernel_rfl) ?_
 iterate 3
  refine ord_p ?_
 refine oc1 hD1 ?_
 refine oc7 o0 o1 o2 o3 o4 o5 o6 ?_
 refine zG rfl rfl rfl rfl rfl Tryz.func264 rfl rfl [.agg o] rfl ?_
 refine (zSA o _ HO.out.ok).mono ?_
 rintro e w2 ⟨rfl,hg2⟩
 refine ⟨_,rfl,fun _=>hg2,?_⟩
 have HNQ:=LH (HNP.out.grow hg2)
 have hD1':=HNQ.out.dec.c1
 have hDf':=zN 1 HNQ.out.dec
 clear hg2 o0 o1 o2 o3 o4 o5 o6 of hD1 hDf hDc0
 simp only [Act.put,pB,pC,pD]
 iterate 4
  refine ord_p ?_
 refine zJ rfl rfl rfl rfl ?_ ?_ (fun h=>absurd (by simp) h) ?_
 rotate_left
 ·go_simp;with_reducible rfl
 refine zD ?_
 replace HNS:=LH (HNQ.out.pay (paid+(1+obWords o)))
 clear HNP HNQ hD1' hDf' hs1 hs2
 generalize w2.setCell ⟨D,1,none⟩ (.int .i64 (paid+(1+obWords o)))=cw at HNS ⊢
 obtain ⟨o0,o1,o2,o3,o4,o5,o6,of⟩:=zC HNS.out.obj
 have hl0:((l:Int)+1==0)=false:=beq_eq_false_iff_ne.2 (by omega)
 have hD1:=HNS.out.dec.c1
 by_cases hp:8192<paid+(1+obWords o)
 ·have E:=LH (E0.out.trans (if_pos hp))
  have eb:(o.kind != 0)=true:=by have:=HKZ.out;simp [this]
  obtain ⟨n0,n1,n2,n3,n4,nf⟩:=zA HNS.out.nod
  have HNE:=LH (HNS.out.all (.int .i64 0) (.int .i64 0) (.slice none 0 0) (.slice none 0 0) (.slice none 0 0))
  go_wp2
  (try simp only [Exit.inBlock,Exit.then])
  obtain ⟨r0,r1,r2,r3,r4,rf⟩:=zA HNE.out.nod
  refine bodyPost_ret (v:=.tuple #[.agg qA,.int .u16 22]) ?_ rfl (zk HNE.out (er:=22) E.out)
  rw [results_cell_tmp rfl];go_simp
 replace E0:=LH (E0.out.trans (if_neg hp))
 have hpp:paid+(1+obWords o)≤8192:=by omega
 clear hp
 have da0:0≤o.data:=HO.out.ok.d.1
 have da1:o.data≤65535:=HO.out.ok.d.2
 have at0:0≤o.at_:=HO.out.at0
 have pt0:0≤o.ptrs:=HO.out.ok.q.1
 have pt1:o.ptrs≤65535:=HO.out.ok.q.2
 have ct0:0≤o.count:=HO.out.ok.c.1
 have hcs:=HO.out.cases
 have hsz:=HC.out
 have hc2:o.kind=2∧o.data=0∧o.ptrs=0∧o.at_+(o.count+7)/8≤100000:=by
  rcases hcs with h | h | h
  ·rw [h] at hsz;simp [ob0] at hsz
  ·omega
  ·omega
 have at1:o.at_≤100000:=by omega
 have ct1:o.count≤800000:=by omega
 have hpt:o.ptrs≤0:=by omega
 have hdt0:o.data.toNat≤1000000:=by omega
 have Hc2:=LH hc2
 clear hc2
 have hz2:(o.size==2)=true:=by simp [hsz]
 have hz5:(o.size==5)=false:=by simp [hsz]
 have hz6:(o.size==6)=false:=by simp [hsz]
 have eb:(o.kind != 0)=true:=by have:=HKZ.out;simp [this]
 clear hcs hsz
 obtain ⟨n0,n1,n2,n3,n4,nf⟩:=zA HNS.out.nod
 go_wp2
 go_region
 replace HNS:=LH (((HNS.out.put 0 (.int .i64 o.kind) _ _ _ _ _ (by omega) rfl).put 1 (.int .i64 o.size) _ _ _ _ _ (by omega) rfl).drew)
 clear o0 o1 o2 o3 o4 o5 o6 of n0 n1 n2 n3 n4 nf hD1
 generalize ((cw.setCell ⟨w.heap.size,0,none⟩ (.int .i64 o.kind)).setCell ⟨w.heap.size,1,none⟩ (.int .i64 o.size)).drew=cv at HNS ⊢
 obtain ⟨o0,o1,o2,o3,o4,o5,o6,of⟩:=zC HNS.out.obj
 have hs3:IntKind.i64.wrap (o.at_+o.data)=o.at_+o.data:=IntWalk.i64_in _ (by omega)
 go_wp2
 go_region
 replace HNS:=LH HNS.out.drew
 clear o0 o1 o2 o3 o4 o5 o6 of hs3
 generalize cv.drew=cu at HNS ⊢
 obtain ⟨o0,o1,o2,o3,o4,o5,o6,of⟩:=zC HNS.out.obj
 have hO1:w1.heap.size+1≤cu.heap.size:=(gE HNS.out.obj).1
 have hNO:w.heap.size<w1.heap.size:=HNS.out.lo.2.2.2
 have hNOn:w.heap.size≠w1.heap.size:=by omega
 go_wp2_with fail
 refine (zgA HNS.out.dec (HS0.out.grow HNS.out.base) o.seg o.at_ o.data da0 at0 (by omega)).mono ?_
 rintro e w3 ⟨A1,c1,rfl,hg,ho1⟩
 replace HNS:=LH (HNS.out.grow hg)
 have HW:=LH (ztA ho1 hO1)
 clear hg ho1 o0 o1 o2 o3 o4 o5 o6 of hO1
 obtain ⟨o0,o1,o2,o3,o4,o5,o6,of⟩:=zC HNS.out.obj
 obtain ⟨n0,n1,n2,n3,n4,nf⟩:=zA HNS.out.nod
 go_wp2_with fail
 replace HNS:=LH (HNS.out.put 2 (.slice A1 (wordsP wd o.seg o.at_ o.data.toNat).length c1) _ _ _ _ _ (by omega) rfl)
 replace HW:=LH (zeA HW.out (N:=w.heap.size) (by omega) 2 (.slice A1 (wordsP wd o.seg o.at_ o.data.toNat).length c1))
 generalize w3.setCell ⟨w.heap.size,2,none⟩ (.slice A1 (wordsP wd o.seg o.at_ o.data.toNat).length c1)=c3 at HNS HW ⊢
 clear o0 o1 o2 o3 o4 o5 o6 of n0 n1 n2 n3 n4 nf
 obtain ⟨o0,o1,o2,o3,o4,o5,o6,of⟩:=zC HNS.out.obj
 obtain ⟨n0,n1,n2,n3,n4,nf⟩:=zA HNS.out.nod
 have hO1:w1.heap.size+1≤c3.heap.size:=(gE HNS.out.obj).1
 refine (zFI HNS.out.dec (HS0.out.grow HNS.out.base) HSO.out.val o.seg o.at_ o.count ct0 at0 (by omega) (by omega)).mono ?_
 rintro e w4 ⟨A2,c2b,rfl,hg,ho2⟩
 replace HNS:=LH (HNS.out.grow hg)
 replace HW:=LH (zF HW.out hg (fun _ _ h=>h))
 have HV0:=LH (ztA ho2 hO1)
 clear hg ho2 o0 o1 o2 o3 o4 o5 o6 of n0 n1 n2 n3 n4 nf hO1
 obtain ⟨n0,n1,n2,n3,n4,nf⟩:=zA HNS.out.nod
 go_wp2
 replace HNS:=LH (HNS.out.put 3 (.slice A2 (bytesP wd o.seg o.at_ o.count.toNat).length c2b) _ _ _ _ _ (by omega) rfl)
 replace HW:=LH (zeA HW.out (N:=w.heap.size) (by omega) 3 (.slice A2 (bytesP wd o.seg o.at_ o.count.toNat).length c2b))
 have HV:=LH (zeA HV0.out (N:=w.heap.size) (by omega) 3 (.slice A2 (bytesP wd o.seg o.at_ o.count.toNat).length c2b))
 generalize w4.setCell ⟨w.heap.size,3,none⟩ (.slice A2 (bytesP wd o.seg o.at_ o.count.toNat).length c2b)=c2 at HNS HW HV ⊢
 have hn0:(if o.size=6 then o.count else o.ptrs).toNat=0:=by rw [HC.out];have:=Hc2.out.2.2.1;simp;omega
 clear n0 n1 n2 n3 n4 nf
 have hdt:o.data.toNat≤1000000:=hdt0
 have E:=LH (E0.out.trans (zzA (ws:=wordsP wd o.seg o.at_ o.data.toNat) (bs:=bytesP wd o.seg o.at_ o.count.toNat) (at0:=o.at_+o.data) (n:=0) (by rw [HC.out];rfl) (by rw [HC.out];rfl) (by rw [HC.out];rfl) hn0 rfl))
 clear hn0
 go_loopw [109] (fun v wr=>wr=c2∧v=.int .i64 0) (fun v _=>0)
 case atStart=>exact ⟨rfl,rfl⟩
 case round =>
  obtain ⟨rfl,rfl⟩:=hrel
  obtain ⟨n0,n1,n2,n3,n4,nf⟩:=zA HNS.out.nod
  have HNE:=LH (HNS.out.all (.int .i64 o.kind) (.int .i64 o.size) (.slice A1 (wordsP wd o.seg o.at_ o.data.toNat).length c1) (.slice A2 (bytesP wd o.seg o.at_ o.count.toNat).length c2b) (.slice none 0 0))
  go_wp2
  (try simp only [Exit.inBlock,Exit.then])
  obtain ⟨r0,r1,r2,r3,r4,rf⟩:=zA HNE.out.nod
  refine bodyPost_ret (v:=.tuple #[.agg #[o.kind,o.size,.slice A1 (wordsP wd o.seg o.at_ o.data.toNat).length c1,.slice A2 (bytesP wd o.seg o.at_ o.count.toNat).length c2b,qI],.int .u16 0]) ?_ rfl ((KL.begin (bs:=bytesP wd o.seg o.at_ o.count.toNat) (at0:=o.at_+o.data) (f:=(nodeP sz wd l o.seg)) HNS.out HW.out HV.out).post HNE.out (zb _ _ _ _ _) E.out (by rw [zm];omega) (by rw [zGA];omega) (by omega))
  rw [results_cell_tmp rfl];go_simp
theorem zdL {sz:List Int} {wd:Int→Int→Int×Int} (ho:SouOk sz wd) {l:Nat} (IH:Hid (NodeAt sz wd l)) (hll:l≤1000) (sv:Value) (W0:World) (D:Nat) (paid seg at_:Int) (w:World) (hS:Sou sv sz wd W0) (hD:Dec D sv paid w) (hD0:W0.heap.size≤D) (hg:Grow W0 w) (p0:0≤paid) (p1:paid≤8192) (hcase:(followP sz wd seg at_).1.size=5) (hkz:(followP sz wd seg at_).1.kind≠0) :
    Calls Tryz.prog 244 #[.pointer (some ⟨D,0,none⟩),.int .i64 seg,.int .i64 at_,.int .i64 (l+1:Nat)] w (NPost (nodeP sz wd (l+1) seg at_ paid) D sv w):=by
 obtain ⟨T,pv,fw,fs,r,rfl,-⟩:=hS.out
 have HSO:=LH ho
 have HS0:=LH hS
 have hg0:=(Keep.refl NoB w).alloc (.cells qA 114)
 have HS:=LH (hS.grow (hg.grow hg0))
 have dc0:=(hD.grow hg0).c0
 have HD:=LH (And.intro hD (And.intro hD0 hg))
 have E0:Hid (nodeP sz wd (l+1) seg at_ paid=nodeS sz wd false (nodeP sz wd l) seg at_ paid):=LH rfl
 clear hS hD hD0 hg hg0 ho
 go_enter Tryz.func244,Tryz.ntmps244
 go_wp2_with fail
 refine (zy HS.out HSO.out seg at_).mono ?_
 rintro e w1 ⟨rfl,hg1⟩
 have HO:=LH (zd HSO.out seg at_)
 unfold nodeS at E0
 generalize (followP sz wd seg at_).1=o at *
 generalize (followP sz wd seg at_).2=fe at *
 have HNS:=LH (zWB (o:=o) HD.out.1 HD.out.2.1 HD.out.2.2 hg1)
 clear hg1 dc0
 have HC:=LH hcase
 have HKZ:=LH hkz
 clear hcase hkz
 by_cases he:fe=0
 case neg =>
  have eb:(fe != 0)=true:=by simp [he]
  have E:=LH (E0.out.trans (if_neg he))
  clear he
  obtain ⟨n0,n1,n2,n3,n4,nf⟩:=zA HNS.out.nod
  have HNE:=LH (HNS.out.all (.int .i64 0) (.int .i64 0) (.slice none 0 0) (.slice none 0 0) (.slice none 0 0))
  go_wp2
  (try simp only [Exit.inBlock,Exit.then])
  obtain ⟨r0,r1,r2,r3,r4,rf⟩:=zA HNE.out.nod
  refine bodyPost_ret (v:=.tuple #[.agg qA,.int .u16 fe]) ?_ rfl (zk HNE.out (er:=fe) E.out)
  rw [results_cell_tmp rfl];go_simp
 subst he
 replace E0:=LH (E0.out.trans (if_pos (by simp)))
 replace E0:=LH (E0.out.trans (if_neg (by simp)))
 obtain ⟨o0,o1,o2,o3,o4,o5,o6,of⟩:=zC HNS.out.drew.obj
 have hD1:=HNS.out.drew.dec.c1
 have hDf:=zN 1 HNS.out.drew.dec
 have hDc0:=HNS.out.drew.dec.c0
 have how:=za HO.out
 have hw0:=how.1
 have hw1:=how.2
 have HNP:=LH (HNS.out.drew)
 have hs1:IntKind.i64.wrap (1+obWords o)=1+obWords o:=IntWalk.i64_in _ (by omega)
 have hs2:IntKind.i64.wrap (paid+(1+obWords o))=paid+(1+obWords o):=IntWalk.i64_in _ (by omega)
 clear how
 go_wp2
 refine zE [0,1,2,3,4,5,6,7,8,9,10] [5,10] [3,4] [10] rfl (by kernel_rfl) ?_
 iterate 3
  refine ord_p ?_
 refine oc1 hD1 ?_
 refine oc7 o0 o1 o2 o3 o4 o5 o6 ?_
 refine zG rfl rfl rfl rfl rfl Tryz.func264 rfl rfl [.agg o] rfl ?_
 refine (zSA o _ HO.out.ok).mono ?_
 rintro e w2 ⟨rfl,hg2⟩
 refine ⟨_,rfl,fun _=>hg2,?_⟩
 have HNQ:=LH (HNP.out.grow hg2)
 have hD1':=HNQ.out.dec.c1
 have hDf':=zN 1 HNQ.out.dec
 clear hg2 o0 o1 o2 o3 o4 o5 o6 of hD1 hDf hDc0
 simp only [Act.put,pB,pC,pD]
 iterate 4
  refine ord_p ?_
 refine zJ rfl rfl rfl rfl ?_ ?_ (fun h=>absurd (by simp) h) ?_
 rotate_left
 ·go_simp;with_reducible rfl
 refine zD ?_
 replace HNS:=LH (HNQ.out.pay (paid+(1+obWords o)))
 clear HNP HNQ hD1' hDf' hs1 hs2
 generalize w2.setCell ⟨D,1,none⟩ (.int .i64 (paid+(1+obWords o)))=cw at HNS ⊢
 obtain ⟨o0,o1,o2,o3,o4,o5,o6,of⟩:=zC HNS.out.obj
 have hl0:((l:Int)+1==0)=false:=beq_eq_false_iff_ne.2 (by omega)
 have hD1:=HNS.out.dec.c1
 by_cases hp:8192<paid+(1+obWords o)
 ·have E:=LH (E0.out.trans (if_pos hp))
  have eb:(o.kind != 0)=true:=by have:=HKZ.out;simp [this]
  obtain ⟨n0,n1,n2,n3,n4,nf⟩:=zA HNS.out.nod
  have HNE:=LH (HNS.out.all (.int .i64 0) (.int .i64 0) (.slice none 0 0) (.slice none 0 0) (.slice none 0 0))
  go_wp2
  (try simp only [Exit.inBlock,Exit.then])
  obtain ⟨r0,r1,r2,r3,r4,rf⟩:=zA HNE.out.nod
  refine bodyPost_ret (v:=.tuple #[.agg qA,.int .u16 22]) ?_ rfl (zk HNE.out (er:=22) E.out)
  rw [results_cell_tmp rfl];go_simp
 replace E0:=LH (E0.out.trans (if_neg hp))
 have hpp:paid+(1+obWords o)≤8192:=by omega
 clear hp
 have da0:0≤o.data:=HO.out.ok.d.1
 have da1:o.data≤65535:=HO.out.ok.d.2
 have at0:0≤o.at_:=HO.out.at0
 have pt0:0≤o.ptrs:=HO.out.ok.q.1
 have pt1:o.ptrs≤65535:=HO.out.ok.q.2
 have ct0:0≤o.count:=HO.out.ok.c.1
 have hcs:=HO.out.cases
 have hsz:=HC.out
 have hc2:o.kind=2∧o.data=0∧o.ptrs=0∧o.at_+o.count≤100000:=by
  rcases hcs with h | h | h
  ·rw [h] at hsz;simp [ob0] at hsz
  ·omega
  ·omega
 have at1:o.at_≤100000:=by omega
 have ct1:o.count≤100000:=by omega
 have hpt:o.ptrs≤0:=by omega
 have hdt0:o.data.toNat≤1000000:=by omega
 have Hc2:=LH hc2
 clear hc2
 have hz2:(o.size==2)=false:=by simp [hsz]
 have hz5:(o.size==5)=true:=by simp [hsz]
 have hz6:(o.size==6)=false:=by simp [hsz]
 have eb:(o.kind != 0)=true:=by have:=HKZ.out;simp [this]
 clear hcs hsz
 obtain ⟨n0,n1,n2,n3,n4,nf⟩:=zA HNS.out.nod
 go_wp2
 go_region
 replace HNS:=LH (((HNS.out.put 0 (.int .i64 o.kind) _ _ _ _ _ (by omega) rfl).put 1 (.int .i64 o.size) _ _ _ _ _ (by omega) rfl).drew)
 clear o0 o1 o2 o3 o4 o5 o6 of n0 n1 n2 n3 n4 nf hD1
 generalize ((cw.setCell ⟨w.heap.size,0,none⟩ (.int .i64 o.kind)).setCell ⟨w.heap.size,1,none⟩ (.int .i64 o.size)).drew=cv at HNS ⊢
 obtain ⟨o0,o1,o2,o3,o4,o5,o6,of⟩:=zC HNS.out.obj
 have hs3:IntKind.i64.wrap (o.at_+o.data)=o.at_+o.data:=IntWalk.i64_in _ (by omega)
 go_wp2
 go_region
 replace HNS:=LH HNS.out.drew
 clear o0 o1 o2 o3 o4 o5 o6 of hs3
 generalize cv.drew=cu at HNS ⊢
 obtain ⟨o0,o1,o2,o3,o4,o5,o6,of⟩:=zC HNS.out.obj
 have hO1:w1.heap.size+1≤cu.heap.size:=(gE HNS.out.obj).1
 have hNO:w.heap.size<w1.heap.size:=HNS.out.lo.2.2.2
 have hNOn:w.heap.size≠w1.heap.size:=by omega
 go_wp2_with fail
 refine (zgA HNS.out.dec (HS0.out.grow HNS.out.base) o.seg o.at_ o.data da0 at0 (by omega)).mono ?_
 rintro e w3 ⟨A1,c1,rfl,hg,ho1⟩
 replace HNS:=LH (HNS.out.grow hg)
 have HW:=LH (ztA ho1 hO1)
 clear hg ho1 o0 o1 o2 o3 o4 o5 o6 of hO1
 obtain ⟨o0,o1,o2,o3,o4,o5,o6,of⟩:=zC HNS.out.obj
 obtain ⟨n0,n1,n2,n3,n4,nf⟩:=zA HNS.out.nod
 go_wp2_with fail
 replace HNS:=LH (HNS.out.put 2 (.slice A1 (wordsP wd o.seg o.at_ o.data.toNat).length c1) _ _ _ _ _ (by omega) rfl)
 replace HW:=LH (zeA HW.out (N:=w.heap.size) (by omega) 2 (.slice A1 (wordsP wd o.seg o.at_ o.data.toNat).length c1))
 generalize w3.setCell ⟨w.heap.size,2,none⟩ (.slice A1 (wordsP wd o.seg o.at_ o.data.toNat).length c1)=c3 at HNS HW ⊢
 clear o0 o1 o2 o3 o4 o5 o6 of n0 n1 n2 n3 n4 nf
 obtain ⟨o0,o1,o2,o3,o4,o5,o6,of⟩:=zC HNS.out.obj
 obtain ⟨n0,n1,n2,n3,n4,nf⟩:=zA HNS.out.nod
 have hO1:w1.heap.size+1≤c3.heap.size:=(gE HNS.out.obj).1
 refine (zgA HNS.out.dec (HS0.out.grow HNS.out.base) o.seg o.at_ o.count ct0 at0 (by omega)).mono ?_
 rintro e w4 ⟨A2,c2b,rfl,hg,ho2⟩
 replace HNS:=LH (HNS.out.grow hg)
 have HW0:=LH (ztA ho2 hO1)
 clear hg ho2 HW o0 o1 o2 o3 o4 o5 o6 of n0 n1 n2 n3 n4 nf hO1
 obtain ⟨n0,n1,n2,n3,n4,nf⟩:=zA HNS.out.nod
 go_wp2
 replace HNS:=LH (HNS.out.put 2 (.slice A2 (wordsP wd o.seg o.at_ o.count.toNat).length c2b) _ _ _ _ _ (by omega) rfl)
 have HW:=LH (zeA HW0.out (N:=w.heap.size) (by omega) 2 (.slice A2 (wordsP wd o.seg o.at_ o.count.toNat).length c2b))
 generalize w4.setCell ⟨w.heap.size,2,none⟩ (.slice A2 (wordsP wd o.seg o.at_ o.count.toNat).length c2b)=c2 at HNS HW ⊢
 have HV:=LH (World.ownsRow_nil c2 (w1.heap.size+1) 5 1)
 have hn0:(if o.size=6 then o.count else o.ptrs).toNat=0:=by rw [HC.out];have:=Hc2.out.2.2.1;simp;omega
 clear n0 n1 n2 n3 n4 nf
 have E:=LH (E0.out.trans (zzA (ws:=wordsP wd o.seg o.at_ o.count.toNat) (bs:=[]) (at0:=o.at_+o.data) (n:=0) (by rw [HC.out];rfl) (by rw [HC.out];rfl) (by rw [HC.out];rfl) hn0 rfl))
 clear hn0
 go_loopw [109] (fun v wr=>wr=c2∧v=.int .i64 0) (fun v _=>0)
 case atStart=>exact ⟨rfl,rfl⟩
 case round =>
  obtain ⟨rfl,rfl⟩:=hrel
  obtain ⟨n0,n1,n2,n3,n4,nf⟩:=zA HNS.out.nod
  have HNE:=LH (HNS.out.all (.int .i64 o.kind) (.int .i64 o.size) (.slice A2 (wordsP wd o.seg o.at_ o.count.toNat).length c2b) (.slice none 0 0) (.slice none 0 0))
  go_wp2
  (try simp only [Exit.inBlock,Exit.then])
  obtain ⟨r0,r1,r2,r3,r4,rf⟩:=zA HNE.out.nod
  refine bodyPost_ret (v:=.tuple #[.agg #[o.kind,o.size,.slice A2 (wordsP wd o.seg o.at_ o.count.toNat).length c2b,qI,qI],.int .u16 0]) ?_ rfl ((KL.begin (bs:=[]) (at0:=o.at_+o.data) (f:=(nodeP sz wd l o.seg)) HNS.out HW.out HV.out).post HNE.out (zb _ _ _ _ _) E.out (by rw [zm];omega) (by simp) (by omega))
  rw [results_cell_tmp rfl];go_simp
theorem zEJ {sz:List Int} {wd:Int→Int→Int×Int} (ho:SouOk sz wd) {l:Nat} (sv:Value) (W0:World) (D:Nat) (paid seg at_:Int) (w:World) (hS:Sou sv sz wd W0) (hD:Dec D sv paid w) (hD0:W0.heap.size≤D) (hg:Grow W0 w) (p0:0≤paid) (p1:paid≤8192) (hkz:(followP sz wd seg at_).1.kind=0) :
    Calls Tryz.prog 244 #[.pointer (some ⟨D,0,none⟩),.int .i64 seg,.int .i64 at_,.int .i64 (l+1:Nat)] w (NPost (nodeP sz wd (l+1) seg at_ paid) D sv w):=by
 obtain ⟨T,pv,fw,fs,r,rfl,-⟩:=hS.out
 have HSO:=LH ho
 have HS0:=LH hS
 have hg0:=(Keep.refl NoB w).alloc (.cells qA 114)
 have HS:=LH (hS.grow (hg.grow hg0))
 have dc0:=(hD.grow hg0).c0
 have HD:=LH (And.intro hD (And.intro hD0 hg))
 have E0:Hid (nodeP sz wd (l+1) seg at_ paid=nodeS sz wd false (nodeP sz wd l) seg at_ paid):=LH rfl
 clear hS hD hD0 hg hg0 ho
 go_enter Tryz.func244,Tryz.ntmps244
 go_wp2_with fail
 refine (zy HS.out HSO.out seg at_).mono ?_
 rintro e w1 ⟨rfl,hg1⟩
 have HO:=LH (zd HSO.out seg at_)
 unfold nodeS at E0
 generalize (followP sz wd seg at_).1=o at *
 generalize (followP sz wd seg at_).2=fe at *
 have HNS:=LH (zWB (o:=o) HD.out.1 HD.out.2.1 HD.out.2.2 hg1)
 clear hg1 dc0
 have HKZ:=LH hkz
 clear hkz
 by_cases he:fe=0
 case neg =>
  have eb:(fe != 0)=true:=by simp [he]
  have E:=LH (E0.out.trans (if_neg he))
  clear he
  obtain ⟨n0,n1,n2,n3,n4,nf⟩:=zA HNS.out.nod
  have HNE:=LH (HNS.out.all (.int .i64 0) (.int .i64 0) (.slice none 0 0) (.slice none 0 0) (.slice none 0 0))
  go_wp2
  (try simp only [Exit.inBlock,Exit.then])
  obtain ⟨r0,r1,r2,r3,r4,rf⟩:=zA HNE.out.nod
  refine bodyPost_ret (v:=.tuple #[.agg qA,.int .u16 fe]) ?_ rfl (zk HNE.out (er:=fe) E.out)
  rw [results_cell_tmp rfl];go_simp
 subst he
 replace E0:=LH (E0.out.trans (if_pos (by simp)))
 replace E0:=LH (E0.out.trans (if_neg (by simp)))
 obtain ⟨o0,o1,o2,o3,o4,o5,o6,of⟩:=zC HNS.out.drew.obj
 have hD1:=HNS.out.drew.dec.c1
 have hDf:=zN 1 HNS.out.drew.dec
 have hDc0:=HNS.out.drew.dec.c0
 have how:=za HO.out
 have hw0:=how.1
 have hw1:=how.2
 have HNP:=LH (HNS.out.drew)
 have hs1:IntKind.i64.wrap (1+obWords o)=1+obWords o:=IntWalk.i64_in _ (by omega)
 have hs2:IntKind.i64.wrap (paid+(1+obWords o))=paid+(1+obWords o):=IntWalk.i64_in _ (by omega)
 clear how
 go_wp2
 refine zE [0,1,2,3,4,5,6,7,8,9,10] [5,10] [3,4] [10] rfl (by kernel_rfl) ?_
 iterate 3
  refine ord_p ?_
 refine oc1 hD1 ?_
 refine oc7 o0 o1 o2 o3 o4 o5 o6 ?_
 refine zG rfl rfl rfl rfl rfl Tryz.func264 rfl rfl [.agg o] rfl ?_
 refine (zSA o _ HO.out.ok).mono ?_
 rintro e w2 ⟨rfl,hg2⟩
 refine ⟨_,rfl,fun _=>hg2,?_⟩
 have HNQ:=LH (HNP.out.grow hg2)
 have hD1':=HNQ.out.dec.c1
 have hDf':=zN 1 HNQ.out.dec
 clear hg2 o0 o1 o2 o3 o4 o5 o6 of hD1 hDf hDc0
 simp only [Act.put,pB,pC,pD]
 iterate 4
  refine ord_p ?_
 refine zJ rfl rfl rfl rfl ?_ ?_ (fun h=>absurd (by simp) h) ?_
 rotate_left
 ·go_simp;with_reducible rfl
 refine zD ?_
 replace HNS:=LH (HNQ.out.pay (paid+(1+obWords o)))
 clear HNP HNQ hD1' hDf' hs1 hs2
 generalize w2.setCell ⟨D,1,none⟩ (.int .i64 (paid+(1+obWords o)))=cw at HNS ⊢
 obtain ⟨o0,o1,o2,o3,o4,o5,o6,of⟩:=zC HNS.out.obj
 have eb:(o.kind != 0)=false:=by have:=HKZ.out;simp [this]
 have hob:o=ob0:=by
  have hk:=HKZ.out
  rcases HO.out.cases with h | h | h
  ·exact h
  ·have:=h.1;omega
  ·have:=h.1;omega
 have Hob:=LH hob
 clear hob
 have hD1:=HNS.out.dec.c1
 by_cases hp:8192<paid+(1+obWords o)
 ·have E:=LH (E0.out.trans (if_pos hp))
  obtain ⟨n0,n1,n2,n3,n4,nf⟩:=zA HNS.out.nod
  have HNE:=LH (HNS.out.all (.int .i64 0) (.int .i64 0) (.slice none 0 0) (.slice none 0 0) (.slice none 0 0))
  go_wp2
  (try simp only [Exit.inBlock,Exit.then])
  obtain ⟨r0,r1,r2,r3,r4,rf⟩:=zA HNE.out.nod
  refine bodyPost_ret (v:=.tuple #[.agg qA,.int .u16 22]) ?_ rfl (zk HNE.out (er:=22) E.out)
  rw [results_cell_tmp rfl];go_simp
 replace E0:=LH (E0.out.trans (if_neg hp))
 have hpp:paid+(1+obWords o)≤8192:=by omega
 clear hp
 have da0:0≤o.data:=HO.out.ok.d.1
 have da1:o.data≤65535:=HO.out.ok.d.2
 have at0:0≤o.at_:=HO.out.at0
 have at1:o.at_≤100000:=by rw [Hob.out];simp [ob0]
 have hz2:(o.size==2)=false:=by rw [Hob.out];rfl
 have hz5:(o.size==5)=false:=by rw [Hob.out];rfl
 have hz6:(o.size==6)=false:=by rw [Hob.out];rfl
 have hpt:o.ptrs≤0:=by rw [Hob.out];simp [ob0]
 have hdt:o.data.toNat≤1000000:=by omega
 obtain ⟨n0,n1,n2,n3,n4,nf⟩:=zA HNS.out.nod
 go_wp2
 go_region
 replace HNS:=LH (((HNS.out.put 0 (.int .i64 o.kind) _ _ _ _ _ (by omega) rfl).put 1 (.int .i64 o.size) _ _ _ _ _ (by omega) rfl).drew)
 clear o0 o1 o2 o3 o4 o5 o6 of n0 n1 n2 n3 n4 nf hD1
 generalize ((cw.setCell ⟨w.heap.size,0,none⟩ (.int .i64 o.kind)).setCell ⟨w.heap.size,1,none⟩ (.int .i64 o.size)).drew=cv at HNS ⊢
 obtain ⟨o0,o1,o2,o3,o4,o5,o6,of⟩:=zC HNS.out.obj
 have hs3:IntKind.i64.wrap (o.at_+o.data)=o.at_+o.data:=IntWalk.i64_in _ (by omega)
 go_wp2
 go_region
 replace HNS:=LH HNS.out.drew
 clear o0 o1 o2 o3 o4 o5 o6 of hs3
 generalize cv.drew=cu at HNS ⊢
 obtain ⟨o0,o1,o2,o3,o4,o5,o6,of⟩:=zC HNS.out.obj
 have hO1:w1.heap.size+1≤cu.heap.size:=(gE HNS.out.obj).1
 have hNO:w.heap.size<w1.heap.size:=HNS.out.lo.2.2.2
 have hNOn:w.heap.size≠w1.heap.size:=by omega
 go_wp2_with fail
 refine (zgA HNS.out.dec (HS0.out.grow HNS.out.base) o.seg o.at_ o.data da0 at0 (by omega)).mono ?_
 rintro e w3 ⟨A1,c1,rfl,hg,ho1⟩
 replace HNS:=LH (HNS.out.grow hg)
 have HW:=LH (ztA ho1 hO1)
 clear hg ho1 o0 o1 o2 o3 o4 o5 o6 of hO1
 obtain ⟨o0,o1,o2,o3,o4,o5,o6,of⟩:=zC HNS.out.obj
 obtain ⟨n0,n1,n2,n3,n4,nf⟩:=zA HNS.out.nod
 go_wp2
 replace HNS:=LH (HNS.out.put 2 (.slice A1 (wordsP wd o.seg o.at_ o.data.toNat).length c1) _ _ _ _ _ (by omega) rfl)
 replace HW:=LH (zeA HW.out (N:=w.heap.size) (by omega) 2 (.slice A1 (wordsP wd o.seg o.at_ o.data.toNat).length c1))
 generalize w3.setCell ⟨w.heap.size,2,none⟩ (.slice A1 (wordsP wd o.seg o.at_ o.data.toNat).length c1)=c2 at HNS HW ⊢
 have HV:=LH (World.ownsRow_nil c2 (w1.heap.size+1) 5 1)
 have hn0:(if o.size=6 then o.count else o.ptrs).toNat=0:=by rw [Hob.out];rfl
 have E:=LH (E0.out.trans (zzA (ws:=wordsP wd o.seg o.at_ o.data.toNat) (bs:=[]) (at0:=o.at_+o.data) (n:=0) (by rw [Hob.out];rfl) (by rw [Hob.out];rfl) (by rw [Hob.out];rfl) hn0 rfl))
 clear o0 o1 o2 o3 o4 o5 o6 of n0 n1 n2 n3 n4 nf hn0
 go_loopw [109] (fun v wr=>wr=c2∧v=.int .i64 0) (fun v _=>0)
 case atStart=>exact ⟨rfl,rfl⟩
 case round =>
  obtain ⟨rfl,rfl⟩:=hrel
  obtain ⟨n0,n1,n2,n3,n4,nf⟩:=zA HNS.out.nod
  have HNE:=LH (HNS.out.all (.int .i64 o.kind) (.int .i64 o.size) (.slice A1 (wordsP wd o.seg o.at_ o.data.toNat).length c1) (.slice none 0 0) (.slice none 0 0))
  go_wp2
  (try simp only [Exit.inBlock,Exit.then])
  obtain ⟨r0,r1,r2,r3,r4,rf⟩:=zA HNE.out.nod
  refine bodyPost_ret (v:=.tuple #[.agg #[o.kind,o.size,.slice A1 (wordsP wd o.seg o.at_ o.data.toNat).length c1,qI,qI],.int .u16 0]) ?_ rfl ((KL.begin (bs:=[]) (at0:=o.at_+o.data) (f:=(nodeP sz wd l o.seg)) HNS.out HW.out HV.out).post HNE.out (zb _ _ _ _ _) E.out (by rw [zm];omega) (by simp) (by omega))
  rw [results_cell_tmp rfl];go_simp
def stepN (n:Nat):Nat:=(n/2) ^^^ (2197175160*(n%2))
theorem zUK {n:Nat} (h:n<4294967296):stepN n<4294967296:=by
 unfold stepN
 exact Nat.xor_lt_two_pow (n:=32) (by omega) (by omega)
theorem zhL {n:Nat} (h:n<4294967296):bits .xor .u32 ((n:Int)/2) (2197175160*bits .and .u32 (n:Int) 1%4294967296)=((stepN n:Nat):Int):=by
 have h1:bits .and .u32 (n:Int) 1=((n%2:Nat):Int):=by
  have:=u32_and_nat n 1 h (by decide)
  rw [Nat.and_one_is_mod] at this
  simpa using this
 have h2:(2197175160*((n%2:Nat):Int)%4294967296)=((2197175160*(n%2):Nat):Int):=by omega
 have h3:(n:Int)/2=((n/2:Nat):Int):=by omega
 rw [h1,h2,h3,u32_xor_nat _ _ (by omega) (by omega)]
 rfl
theorem zVK (n:Nat) (w:World) (h:n<4294967296):Calls Tryz.prog 205 #[.int .u32 n] w fun e w'=>e=.returned (.int .u32 (stepN n:Nat))∧w=w':=by
 have E:=LH (zhL h)
 have h0:(0:Int)≤n:=by omega
 have h1:(n:Int)≤4294967295:=by omega
 go_enter Tryz.func205,Tryz.ntmps205
 go_wp2
 go_ret
 rw [← E.out]
 exact ⟨rfl,rfl⟩
def stepsN:Nat→Nat→Nat
 | 0,n=>n
 | k+1,n=>stepN (stepsN k n)
theorem zfB {n:Nat} (h:n<4294967296):∀ k,stepsN k n<4294967296
 | 0=>h
 | k+1=>zUK (zfB h k)
theorem zyG (n:Nat) (w:World) (h:n<4294967296):Calls Tryz.prog 204 #[.int .u32 n] w fun e w'=>e=.returned (.int .u32 (stepsN 8 n:Nat))∧w=w':=by
 go_enter Tryz.func204,Tryz.ntmps204
 go_wp2
 go_loopw [0,3] (fun vn v wr=>wr=w∧∃ k:Nat,k≤8∧v=.int .i64 k∧vn=.int .u32 (stepsN k n:Nat)) (fun _ v _=>8-(intOf v).toNat)
 case atStart=>exact ⟨rfl,0,by omega,rfl,rfl⟩
 case round =>
  obtain ⟨rfl,k,hk,rfl,rfl⟩:=hrel
  have hlt2:=zfB h k
  by_cases hlt:k<8
  ·have hlt':(k:Int)<8:=by omega
   have hw:IntKind.i64.wrap ((k:Int)+1)=(k:Int)+1:=IntWalk.i64_in _ (by omega)
   go_wp2_with fail
   refine (zVK _ wr hlt2).mono ?_
   rintro e w' ⟨rfl,rfl⟩
   go_wp2
   go_roundw
   case rel=>exact ⟨trivial,k+1,by omega,by go_num,rfl⟩
   case measure=>simp [intOf];omega
  ·obtain rfl:k=8:=by omega
   go_wp2
   go_ret
   exact ⟨rfl,rfl⟩
theorem zvB {P:Program} {ops:Array Oper} {Q:Exit→Act→World→Prop} {acts reads ds rest:List Nat} {i:Nat} {o:Oper} {a:Act} {w:World} {N:Option Tmp} {f:FuncId} {args:Array Value} (hl:ops.toList[i]? = some o) (ha:acts.contains i=true) (hN:o.dst=N) (hg:o.guard=none)
    (hy:(execOp a.eval o).run P w=.ok (.enter f args) w)
    (h:Calls P f args w fun e w'=>∃ v,e=.returned v∧(i∉ds→Grow w w')∧wpOrd NoB P ops Q acts reads ds rest (a.put N v) w'):wpOrd NoB P ops Q acts reads ds (i :: rest) a w:=by
 refine zmA hl ha (fun K hK=>?_)
 rw [if_pos (by simp [Region.wanted,hg])]
 subst hN
 unfold Oper.wp
 rw [hy,Oper.upon_enter]
 refine h.mono fun e w'' hh=>?_
 obtain ⟨v,rfl,h1,h2⟩:=hh
 exact hK _ _ ⟨h1,h2⟩
def tabL (k:Nat):List Value:=(List.range 256).map (fun i=>Value.int .u32 (if i<k then (stepsN 8 i:Nat) else 0))
theorem zdD (k:Nat):(tabL k).length=256:=by simp [tabL]
theorem zHJ:Tryz.zeroCells294=(tabL 0).toArray:=by kernel_rfl
theorem zIJ (k:Nat) (hk:k<256):(tabL k).set k (.int .u32 (stepsN 8 k:Nat))=tabL (k+1):=by
 apply List.ext_getElem (by simp [tabL])
 intro j h1 h2
 rw [List.getElem_set]
 simp only [tabL,List.getElem_map,List.getElem_range]
 split
 ·rename_i e
  subst e
  rw [if_pos (by omega)]
 ·rename_i e
  by_cases hj:j<k
  ·rw [if_pos hj,if_pos (by omega)]
  ·rw [if_neg hj,if_neg (by omega)]
def Tab (p:Nat) (w:World):Prop:=w.heap[p]? = some (.cells (tabL 256).toArray 294 (0,0))
theorem Tab.grow {p:Nat} {w w':World} (h:Tab p w) (hg:Grow w w'):Tab p w':=hg.heap h
theorem Tab.cell {p:Nat} {w:World} (h:Tab p w) (i:Nat) (hi:i<256):w.cell? ⟨p,i,none⟩=some (.int .u32 (stepsN 8 i:Nat)):=by
 have:=World.news_of_block h i (.int .u32 (stepsN 8 i:Nat)) (by simp [tabL,hi])
 rwa [show (⟨p,0,none⟩:Addr).add i=⟨p,0+i,none⟩ from Addr.add_lit ..,Nat.zero_add] at this
theorem zzG (w:World):Calls Tryz.prog 133 #[] w fun e w'=>e=.returned (.pointer (some ⟨w.heap.size,0,none⟩))∧Grow w w'∧Tab w.heap.size w':=by
 go_enter Tryz.func133,Tryz.ntmps133
 go_wp2
 go_loopw [5] (fun v wr=>∃ k:Nat,k≤256∧v=.int .i64 k∧Hid (Grow w wr∧wr.heap[w.heap.size]? = some (.cells (tabL k).toArray 294 (0,0)))) (fun v _=>256-(intOf v).toNat)
 case atStart=>exact ⟨0,by omega,rfl,(Keep.refl _ _).alloc _,by rw [← zHJ];exact heap_alloc_new w _⟩
 case round =>
  obtain ⟨k,hk,rfl,HS⟩:=hrel
  by_cases hlt:k<256
  ·have hlt':(k:Int)<256:=by omega
   have hw:IntKind.i64.wrap ((k:Int)+1)=(k:Int)+1:=IntWalk.i64_in _ (by omega)
   have hk0:(0:Int)≤k:=by omega
   have hconv:IntKind.u32.wrap (k:Int)=k:=by rw [IntKind.wrap_u32'];omega
   have hc:wr.cell? ⟨w.heap.size,k,none⟩=some ((tabL k)[k]'(by rw [zdD];exact hlt)):=by
    have:=World.news_of_block HS.out.2 k _ (List.getElem?_eq_getElem (by rw [zdD];exact hlt))
    rwa [show (⟨w.heap.size,0,none⟩:Addr).add k=⟨w.heap.size,0+k,none⟩ from Addr.add_lit ..,Nat.zero_add] at this
   have hf:wr.frozen? ⟨w.heap.size,k,none⟩=false:=zN k HS.out.2
   go_wp2
   refine zE [0,1,2,3,6,4,5,7,8] [5,8] [] [8] rfl (by kernel_rfl) ?_
   iterate 6
    refine ord_p ?_
   refine zvB rfl rfl rfl rfl (f:=204) (args:=#[.int .u32 k]) (by go_simp) ?_
   refine (zyG k _ (by omega)).mono ?_
   rintro e w' ⟨rfl,rfl⟩
   refine ⟨_,rfl,fun _=>Keep.refl _ _,?_⟩
   simp only [Act.put,pB,pC,pD]
   refine ord_p ?_
   refine zJ rfl rfl rfl rfl ?_ ?_ (fun h=>absurd (by simp) h) ?_
   rotate_left
   ·go_simp;with_reducible rfl
   refine zD ?_
   have HS2:Hid (Grow w (wr.setCell ⟨w.heap.size,k,none⟩ (.int .u32 (stepsN 8 k:Nat))).drew∧(wr.setCell ⟨w.heap.size,k,none⟩ (.int .u32 (stepsN 8 k:Nat))).drew.heap[w.heap.size]? = some (.cells (tabL (k+1)).toArray 294 (0,0))):=by
    refine ⟨(HS.out.1.setCell (p:=⟨w.heap.size,k,none⟩) (.inr (Nat.le_refl _)) _).drew,?_⟩
    rw [← zIJ k hlt]
    show (wr.setCell ⟨w.heap.size,k,none⟩ (.int .u32 (stepsN 8 k:Nat))).heap[w.heap.size]? = _
    simp only [World.setCell,Array.getElem?_modify]
    simp [HS.out.2]
   go_wp2
   go_roundw
   case rel=>exact ⟨k+1,by omega,by go_num,HS2⟩
   case measure=>simp [intOf];omega
  ·obtain rfl:k=256:=by omega
   go_wp2
   go_ret
   exact ⟨rfl,HS.out⟩
def crcN (n:Nat) (bs:List Int):Nat:=bs.foldl (fun n c=>(n/256) ^^^ stepsN 8 ((n%256) ^^^ c.toNat)) n
theorem zJJ (n:Nat) (bs:List Int) (c:Int):crcN n (bs++[c])=(crcN n bs/256) ^^^ stepsN 8 ((crcN n bs%256) ^^^ c.toNat):=by simp [crcN]
theorem zqF {n:Nat} (h:n<4294967296) {c:Int} (hc:0≤c∧c≤255):(n%256) ^^^ c.toNat<256∧(n/256) ^^^ stepsN 8 ((n%256) ^^^ c.toNat)<4294967296:=by
 have h2:(n%256) ^^^ c.toNat<256:=Nat.xor_lt_two_pow (n:=8) (by omega) (by omega)
 exact ⟨h2,Nat.xor_lt_two_pow (n:=32) (by omega) (zfB (by omega) 8)⟩
theorem zXE {bs:List Int} (hb:∀ c∈bs,0≤c∧c≤255):∀ {n:Nat},n<4294967296→crcN n bs<4294967296:=by
 induction bs with
 | nil=>intro n h;exact h
 | cons c bs ih =>
  intro n h
  exact ih (fun x hx=>hb x (by simp [hx])) (zqF h (hb c (by simp))).2
def moreN (n:Nat) (bs:List Int):Nat:=4294967295 ^^^ crcN (4294967295 ^^^ n) bs
theorem zTD {n:Nat} (h:n<4294967296):4294967295 ^^^ n<4294967296:=Nat.xor_lt_two_pow (n:=32) (by decide) h
theorem zKJ {n:Nat} (h:n<4294967296):bits .xor .u32 IntKind.u32.max (n:Int)=((4294967295 ^^^ n:Nat):Int):=u32_xor_nat 4294967295 n (by decide) h
theorem zGI (p:Nat) (n:Nat) (hn:n<4294967296) (bs:List Int) (hbig:bs.length≤1000000000) (hb:∀ c∈bs,0≤c∧c≤255) (A:Option Addr) (c:Nat) (w:World) (ht:Tab p w) (h:SliceR 1 (.slice A bs.length c) bs.length (u8s bs) w) :
    Calls Tryz.prog 135 #[.pointer (some ⟨p,0,none⟩),.int .u32 n,.slice A bs.length c] w fun e w'=>e=.returned (.int .u32 (moreN n bs:Nat))∧w=w':=by
 have HT:=LH ht
 have HB:=LH hb
 have H:=LH h
 clear ht hb h
 have h0:(0:Int)≤n:=by omega
 have h1:(n:Int)≤4294967295:=by omega
 go_enter Tryz.func135,Tryz.ntmps135
 have hsg:IntKind.u32.signed=false:=rfl
 have hnx:=zKJ hn
 go_wp2
 clear hnx
 go_loopw [1,15] (fun vn v wr=>wr=w∧∃ k:Nat,k≤bs.length∧v=.int .i64 k∧vn=.int .u32 (crcN (4294967295 ^^^ n) (bs.take k):Nat)) (fun _ v _=>bs.length-(intOf v).toNat)
 case atStart=>exact ⟨rfl,0,by omega,rfl,by simp [crcN]⟩
 case round =>
  obtain ⟨rfl,k,hk,rfl,rfl⟩:=hrel
  have hlt2:crcN (4294967295 ^^^ n) (bs.take k)<4294967296:=zXE (fun x hx=>HB.out x (List.mem_of_mem_take hx)) (zTD hn)
  by_cases hlt:k<bs.length
  ·have hlt':(k:Int)<bs.length:=by omega
   have hbl:bs.length≤1000000000:=hbig
   have hw:IntKind.i64.wrap ((k:Int)+1)=(k:Int)+1:=IntWalk.i64_in _ (by omega)
   obtain ⟨ad,rfl,q1⟩:=SliceR.int_at (k:=.u8) H.out k hlt
   have hc:=HB.out _ (List.getElem_mem hlt)
   obtain ⟨i1,i2⟩:=zqF hlt2 hc
   have hsn:crcN (4294967295 ^^^ n) (bs.take (k+1))=(crcN (4294967295 ^^^ n) (bs.take k)/256) ^^^ stepsN 8 ((crcN (4294967295 ^^^ n) (bs.take k)%256) ^^^ bs[k].toNat):=by
    rw [List.take_succ_eq_append_getElem hlt,zJJ]
   have Hsn:=LH hsn
   generalize crcN (4294967295 ^^^ n) (bs.take k)=m at *
   have hx8:bits .xor .u8 ((m:Int)%256) bs[k]=(((m%256) ^^^ bs[k].toNat:Nat):Int):=by
    have:=u8_xor_nat (m%256) bs[k].toNat (by omega) (by omega)
    rwa [show ((m%256:Nat):Int)=(m:Int)%256 from by omega,show ((bs[k].toNat:Nat):Int)=bs[k] from by omega] at this
   have hx32:bits .xor .u32 ((m:Int)/256) (stepsN 8 ((m%256) ^^^ bs[k].toNat):Nat)=(((m/256) ^^^ stepsN 8 ((m%256) ^^^ bs[k].toNat):Nat):Int):=by
    have:=u32_xor_nat (m/256) (stepsN 8 ((m%256) ^^^ bs[k].toNat)) (by omega) (zfB (by omega) 8)
    rwa [show ((m/256:Nat):Int)=(m:Int)/256 from by omega] at this
   have qt:=HT.out.cell _ i1
   have hi1:(((m%256) ^^^ bs[k].toNat:Nat):Int)<256:=by omega
   clear hsn
   generalize (m%256) ^^^ bs[k].toNat=ix at *
   go_wp2
   trace_state
   go_roundw
   case rel=>exact ⟨trivial,k+1,by omega,by go_num,by rw [Hsn.out]⟩
   case measure=>simp [intOf];omega
  ·obtain rfl:k=bs.length:=by omega
   have hlt':¬ ((bs.length:Int)<bs.length):=by omega
   rw [List.take_length] at hlt2 ⊢
   have hnx:=zKJ hlt2
   have E:Hid (moreN n bs=4294967295 ^^^ crcN (4294967295 ^^^ n) bs):=LH rfl
   go_wp2
   go_ret
   exact ⟨by rw [E.out];rfl,rfl⟩
end Go.Proofs.YtfkcpaahdlkcdaaGreat
namespace Go.Proofs.YtfkcpaahdlkcdaaGreat
open Go.RowKit
section
variable {P:Program} {ops:Array Oper} {Q:Exit→Act→World→Prop} {ds:List Nat} {S:Nat→Prop} {R:Act→World→Prop} {acts reads:List Nat} {rest:List Nat} {i:Nat} {o:Oper} {a:Act} {w:World}
theorem zBA {N:Option Tmp} {f:FuncId} {fn:Func} {xs:Array Operand} {ts:Array TypeId} (hl:ops.toList[i]? = some o) (ha:acts.contains i=true) (hN:o.dst=N) (hg:Region.wanted o (yielded ops a.tmps)=true)
    (hop : o.op = .call { callee := .value (.func f), args := xs, argTypes := ts }) (hf : P.funcs[f]? = some fn) (hname : (fn.name == "runtime.NumGoroutine") = false) (hb : fn.body.isSome = true) (args : List Value) (hargs : xs.toList.map a.eval = args)
    (h:Calls P f args.toArray w fun e w'=>∃ v,e=.returned v∧(i∉ds→Keep S w w')∧wpOrdC S P ops Q R acts reads ds rest (a.put N v) w'):wpOrdC S P ops Q R acts reads ds (i :: rest) a w:=by
 refine zmA hl ha (fun K hK=>?_)
 rw [if_pos hg]
 subst hN
 unfold Oper.wp
 have h1 : fn.name ≠ "runtime.NumGoroutine" := by simpa using hname
 obtain ⟨c,hc⟩:=Option.isSome_iff_exists.1 hb
 have hcall:(callFunc f args.toArray).run P w=.ok (.enter f args.toArray) w:=by simp [callFunc,hf,h1,hc]
 have he:(execOp a.eval o).run P w=.ok (.enter f args.toArray) w:=by
  unfold execOp
  have hx:xs.map a.eval=args.toArray:=by rw [← hargs];apply Array.ext';simp
  rw [hop]
  simp [resolve,Deferred.ofValue,invoke,Act.eval,hx,hcall]
 rw [he,Oper.upon_enter]
 refine h.mono fun e w'' hh=>?_
 obtain ⟨v,rfl,h1,h2⟩:=hh
 exact hK _ _ ⟨h1,h2⟩
end
end Go.Proofs.YtfkcpaahdlkcdaaGreat

import Derived.Test.YtfkcpaahdlkcdaaGreatRRecvReads07
set_option linter.unusedSimpArgs false
set_option linter.unusedVariables false
set_option maxRecDepth 100000
set_option maxHeartbeats 16000000
namespace Go.Proofs.YtfkcpaahdlkcdaaGreat
open Go.RowKit
theorem zeL {sz:List Int} {wd:Int→Int→Int×Int} (ho:SouOk sz wd) {l:Nat} (IH:Hid (NodeAt sz wd l)) (hll:l≤1000) (sv:Value) (W0:World) (D:Nat) (paid seg at_:Int) (w:World) (hS:Sou sv sz wd W0) (hD:Dec D sv paid w) (hD0:W0.heap.size≤D) (hg:Grow W0 w) (p0:0≤paid) (p1:paid≤8192) (hcase:(followP sz wd seg at_).1.size=6) (hkz:(followP sz wd seg at_).1.kind≠0) :
    Calls Tryz.prog 244 #[.pointer (some ⟨D,0,none⟩),.int .i64 seg,.int .i64 at_,.int .i64 (l+1:Nat)] w (NPost (nodeP sz wd (l+1) seg at_ paid) D sv w):=by
 obtain ⟨T,pv,fw,fs,r,rfl,-⟩:=hS.out
 have HSO:=LH ho
 have HS0:=LH hS
 have hg0:=(Keep.refl NoB w).alloc (.cells qA 114)
 have HS:=LH (hS.grow (hg.grow hg0))
 have dc0:=(hD.grow hg0).c0
 have HD:=LH (And.intro hD (And.intro hD0 hg))
 have E0:Hid (nodeP sz wd (l+1) seg at_ paid=nodeS sz wd false (nodeP sz wd l) seg at_ paid):=LH rfl
 clear hS hD hD0 hg hg0 ho
 go_enter Tryz.func244,Tryz.ntmps244
 go_wp2_with fail
 refine (zy HS.out HSO.out seg at_).mono ?_
 rintro e w1 ⟨rfl,hg1⟩
 have HO:=LH (zd HSO.out seg at_)
 unfold nodeS at E0
 generalize (followP sz wd seg at_).1=o at *
 generalize (followP sz wd seg at_).2=fe at *
 have HNS:=LH (zWB (o:=o) HD.out.1 HD.out.2.1 HD.out.2.2 hg1)
 clear hg1 dc0
 have HC:=LH hcase
 have HKZ:=LH hkz
 clear hcase hkz
 by_cases he:fe=0
 case neg =>
  have eb:(fe != 0)=true:=by simp [he]
  have E:=LH (E0.out.trans (if_neg he))
  clear he
  obtain ⟨n0,n1,n2,n3,n4,nf⟩:=zA HNS.out.nod
  have HNE:=LH (HNS.out.all (.int .i64 0) (.int .i64 0) (.slice none 0 0) (.slice none 0 0) (.slice none 0 0))
  go_wp2
  (try simp only [Exit.inBlock,Exit.then])
  obtain ⟨r0,r1,r2,r3,r4,rf⟩:=zA HNE.out.nod
  refine bodyPost_ret (v:=.tuple #[.agg qA,.int .u16 fe]) ?_ rfl (zk HNE.out (er:=fe) E.out)
  rw [results_cell_tmp rfl];go_simp
 subst he
 replace E0:=LH (E0.out.trans (if_pos (by simp)))
 replace E0:=LH (E0.out.trans (if_neg (by simp)))
 obtain ⟨o0,o1,o2,o3,o4,o5,o6,of⟩:=zC HNS.out.drew.obj
 have hD1:=HNS.out.drew.dec.c1
 have hDf:=zN 1 HNS.out.drew.dec
 have hDc0:=HNS.out.drew.dec.c0
 have how:=za HO.out
 have hw0:=how.1
 have hw1:=how.2
 have HNP:=LH (HNS.out.drew)
 have hs1:IntKind.i64.wrap (1+obWords o)=1+obWords o:=IntWalk.i64_in _ (by omega)
 have hs2:IntKind.i64.wrap (paid+(1+obWords o))=paid+(1+obWords o):=IntWalk.i64_in _ (by omega)
 clear how
 go_wp2
 refine zE [0,1,2,3,4,5,6,7,8,9,10] [5,10] [3,4] [10] rfl (by kernel_rfl) ?_
 iterate 3
  refine ord_p ?_
 refine oc1 hD1 ?_
 refine oc7 o0 o1 o2 o3 o4 o5 o6 ?_
 refine zG rfl rfl rfl rfl rfl Tryz.func264 rfl rfl [.agg o] rfl ?_
 refine (zSA o _ HO.out.ok).mono ?_
 rintro e w2 ⟨rfl,hg2⟩
 refine ⟨_,rfl,fun _=>hg2,?_⟩
 have HNQ:=LH (HNP.out.grow hg2)
 have hD1':=HNQ.out.dec.c1
 have hDf':=zN 1 HNQ.out.dec
 clear hg2 o0 o1 o2 o3 o4 o5 o6 of hD1 hDf hDc0
 simp only [Act.put,pB,pC,pD]
 iterate 4
  refine ord_p ?_
 refine zJ rfl rfl rfl rfl ?_ ?_ (fun h=>absurd (by simp) h) ?_
 rotate_left
 ·go_simp;with_reducible rfl
 refine zD ?_
 replace HNS:=LH (HNQ.out.pay (paid+(1+obWords o)))
 clear HNP HNQ hD1' hDf' hs1 hs2
 generalize w2.setCell ⟨D,1,none⟩ (.int .i64 (paid+(1+obWords o)))=cw at HNS ⊢
 obtain ⟨o0,o1,o2,o3,o4,o5,o6,of⟩:=zC HNS.out.obj
 have hl0:((l:Int)+1==0)=false:=beq_eq_false_iff_ne.2 (by omega)
 have hD1:=HNS.out.dec.c1
 by_cases hp:8192<paid+(1+obWords o)
 ·have E:=LH (E0.out.trans (if_pos hp))
  have eb:(o.kind != 0)=true:=by have:=HKZ.out;simp [this]
  obtain ⟨n0,n1,n2,n3,n4,nf⟩:=zA HNS.out.nod
  have HNE:=LH (HNS.out.all (.int .i64 0) (.int .i64 0) (.slice none 0 0) (.slice none 0 0) (.slice none 0 0))
  go_wp2
  (try simp only [Exit.inBlock,Exit.then])
  obtain ⟨r0,r1,r2,r3,r4,rf⟩:=zA HNE.out.nod
  refine bodyPost_ret (v:=.tuple #[.agg qA,.int .u16 22]) ?_ rfl (zk HNE.out (er:=22) E.out)
  rw [results_cell_tmp rfl];go_simp
 replace E0:=LH (E0.out.trans (if_neg hp))
 have hpp:paid+(1+obWords o)≤8192:=by omega
 clear hp
 have da0:0≤o.data:=HO.out.ok.d.1
 have da1:o.data≤65535:=HO.out.ok.d.2
 have at0:0≤o.at_:=HO.out.at0
 have pt0:0≤o.ptrs:=HO.out.ok.q.1
 have pt1:o.ptrs≤65535:=HO.out.ok.q.2
 have ct0:0≤o.count:=HO.out.ok.c.1
 have hcs:=HO.out.cases
 have hsz:=HC.out
 have hc2:o.kind=2∧o.data=0∧o.ptrs=0∧o.at_+o.count≤100000:=by
  rcases hcs with h | h | h
  ·rw [h] at hsz;simp [ob0] at hsz
  ·omega
  ·omega
 have at1:o.at_≤100000:=by omega
 have ct1:o.count≤100000:=by omega
 have hpt:o.ptrs≤0:=by omega
 have hdt0:o.data.toNat≤1000000:=by omega
 have Hc2:=LH hc2
 clear hc2
 have hz2:(o.size==2)=false:=by simp [hsz]
 have hz5:(o.size==5)=false:=by simp [hsz]
 have hz6:(o.size==6)=true:=by simp [hsz]
 have eb:(o.kind != 0)=true:=by have:=HKZ.out;simp [this]
 clear hcs hsz
 obtain ⟨n0,n1,n2,n3,n4,nf⟩:=zA HNS.out.nod
 go_wp2
 go_region
 replace HNS:=LH (((HNS.out.put 0 (.int .i64 o.kind) _ _ _ _ _ (by omega) rfl).put 1 (.int .i64 o.size) _ _ _ _ _ (by omega) rfl).drew)
 clear o0 o1 o2 o3 o4 o5 o6 of n0 n1 n2 n3 n4 nf hD1
 generalize ((cw.setCell ⟨w.heap.size,0,none⟩ (.int .i64 o.kind)).setCell ⟨w.heap.size,1,none⟩ (.int .i64 o.size)).drew=cv at HNS ⊢
 obtain ⟨o0,o1,o2,o3,o4,o5,o6,of⟩:=zC HNS.out.obj
 have hs3:IntKind.i64.wrap (o.at_+o.data)=o.at_+o.data:=IntWalk.i64_in _ (by omega)
 go_wp2
 go_region
 replace HNS:=LH HNS.out.drew
 clear o0 o1 o2 o3 o4 o5 o6 of hs3
 generalize cv.drew=cu at HNS ⊢
 obtain ⟨o0,o1,o2,o3,o4,o5,o6,of⟩:=zC HNS.out.obj
 have hO1:w1.heap.size+1≤cu.heap.size:=(gE HNS.out.obj).1
 have hNO:w.heap.size<w1.heap.size:=HNS.out.lo.2.2.2
 have hNOn:w.heap.size≠w1.heap.size:=by omega
 go_wp2_with fail
 refine (zgA HNS.out.dec (HS0.out.grow HNS.out.base) o.seg o.at_ o.data da0 at0 (by omega)).mono ?_
 rintro e w3 ⟨A1,c1,rfl,hg,ho1⟩
 replace HNS:=LH (HNS.out.grow hg)
 have HW:=LH (ztA ho1 hO1)
 clear hg ho1 o0 o1 o2 o3 o4 o5 o6 of hO1
 obtain ⟨o0,o1,o2,o3,o4,o5,o6,of⟩:=zC HNS.out.obj
 obtain ⟨n0,n1,n2,n3,n4,nf⟩:=zA HNS.out.nod
 go_wp2
 replace HNS:=LH (HNS.out.put 2 (.slice A1 (wordsP wd o.seg o.at_ o.data.toNat).length c1) _ _ _ _ _ (by omega) rfl)
 replace HW:=LH (zeA HW.out (N:=w.heap.size) (by omega) 2 (.slice A1 (wordsP wd o.seg o.at_ o.data.toNat).length c1))
 generalize w3.setCell ⟨w.heap.size,2,none⟩ (.slice A1 (wordsP wd o.seg o.at_ o.data.toNat).length c1)=c3 at HNS HW ⊢
 clear o0 o1 o2 o3 o4 o5 o6 of n0 n1 n2 n3 n4 nf
 obtain ⟨o0,o1,o2,o3,o4,o5,o6,of⟩:=zC HNS.out.obj
 go_region
 replace HNS:=LH HNS.out.drew
 replace HW:=LH (zF HW.out (Keep.refl NoB c3).drew (fun _ _ h=>h))
 clear o0 o1 o2 o3 o4 o5 o6 of
 generalize c3.drew=c2 at HNS HW ⊢
 have HV:=LH (World.ownsRow_nil c2 (w1.heap.size+1) 5 1)
 go_wp2
 have HK0:=LH (KL.begin (bs:=[]) (at0:=o.at_) (f:=nodeP sz wd l o.seg) HNS.out HW.out HV.out)
 clear HNS HW HV
 go_loopw [109] (fun v wr=>∃ (k:Nat),k≤(o.count).toNat∧v=.int .i64 k∧∃ A4 c4 rows,Hid (KL W0 w D w.heap.size w1.heap.size (.iface T pv) o (nodeP sz wd l o.seg) (o.at_) (paid+(1+obWords o)) (wordsP wd o.seg o.at_ o.data.toNat) ([]) (.slice A1 (wordsP wd o.seg o.at_ o.data.toNat).length c1) (.slice none 0 0) k (.slice A4 k c4) rows wr)) (fun v _=>(o.count).toNat-(intOf v).toNat)
 case atStart=>exact ⟨0,by omega,rfl,none,0,[],HK0⟩
 case round =>
  clear HK0
  obtain ⟨k,hk,rfl,A4,c4,rows,HK⟩:=hrel
  obtain ⟨o0,o1,o2,o3,o4,o5,o6,of⟩:=zC HK.out.ns.obj
  obtain ⟨n0,n1,n2,n3,n4,nf⟩:=zA HK.out.ns.nod
  by_cases hlt:k<(o.count).toNat
  ·have hlt':(k:Int)<o.count:=by omega
   have hkk:(k:Int)≤200000:=by omega
   have hw:IntKind.i64.wrap ((k:Int)+1)=(k:Int)+1:=IntWalk.i64_in _ (by omega)
   have hl1:IntKind.i64.wrap ((l:Int)+1-1)=l:=by rw [show (l:Int)+1-1=l from by omega];exact IntWalk.i64_in _ (by omega)
   have hpd:=zPB (f:=nodeP sz wd l o.seg) (at0:=o.at_) (zjB HSO.out l o.seg) (show 0≤paid+(1+obWords o) by omega) hpp k HK.out.ok
   have Hpd:=LH hpd
   clear hpd
   go_wp2_with fail
   refine (IH.out (.iface T pv) W0 D (kidsK (nodeP sz wd l o.seg) (o.at_) (paid+(1+obWords o)) k).2.2 o.seg (o.at_+k) wr HS0.out HK.out.ns.dec HD.out.2.1 HK.out.ns.base Hpd.out.1 Hpd.out.2).mono ?_
   rintro e w4 ⟨xw,xb,xk,rfl,hdec,hkeep,hfoot,htrb⟩
   have Hsu:Hid (kidsK (nodeP sz wd l o.seg) (o.at_) (paid+(1+obWords o)) (k+1)=if (kidsK (nodeP sz wd l o.seg) (o.at_) (paid+(1+obWords o)) k).2.1=0 then (if (nodeP sz wd l o.seg (o.at_+k) (kidsK (nodeP sz wd l o.seg) (o.at_) (paid+(1+obWords o)) k).2.2).2.1=0 then ((kidsK (nodeP sz wd l o.seg) (o.at_) (paid+(1+obWords o)) k).1++[(nodeP sz wd l o.seg (o.at_+k) (kidsK (nodeP sz wd l o.seg) (o.at_) (paid+(1+obWords o)) k).2.2).1],0,(nodeP sz wd l o.seg (o.at_+k) (kidsK (nodeP sz wd l o.seg) (o.at_) (paid+(1+obWords o)) k).2.2).2.2) else ([],(nodeP sz wd l o.seg (o.at_+k) (kidsK (nodeP sz wd l o.seg) (o.at_) (paid+(1+obWords o)) k).2.2).2.1,(nodeP sz wd l o.seg (o.at_+k) (kidsK (nodeP sz wd l o.seg) (o.at_) (paid+(1+obWords o)) k).2.2).2.2)) else kidsK (nodeP sz wd l o.seg) (o.at_) (paid+(1+obWords o)) k):=LH rfl
   have Hok:=LH HK.out.ok
   obtain ⟨B1,d1,B2,d2,B3,d3,rfl,rfl,rfl⟩:=hfoot.now.parts
   have HM:=LH (HK.out.called hdec hkeep hfoot)
   have Htb:=LH htrb
   clear hdec hkeep hfoot htrb o0 o1 o2 o3 o4 o5 o6 of n0 n1 n2 n3 n4 nf
   generalize nodeP sz wd l o.seg (o.at_+k) (kidsK (nodeP sz wd l o.seg) (o.at_) (paid+(1+obWords o)) k).2.2=r at *
   have hga:=(Keep.refl NoB w4).alloc (.cells #[r.1.kind,r.1.size,.slice B1 r.1.ws.length d1,.slice B2 r.1.bs.length d2,.slice B3 r.1.kids.length d3] 114)
   have hna:=heap_alloc_new w4 (.cells #[r.1.kind,r.1.size,.slice B1 r.1.ws.length d1,.slice B2 r.1.bs.length d2,.slice B3 r.1.kids.length d3] 114)
   replace HM:=LH (HM.out.grow hga)
   have HNA:=LH hna
   clear hga hna
   obtain ⟨t0,t1,t2,t3,t4,tf⟩:=zA HNA.out
   obtain ⟨n0,n1,n2,n3,n4,nf⟩:=zA HM.out.ns.nod
   by_cases her:r.2.1=0
   case neg =>
    have eb:(r.2.1 != 0)=true:=by simp [her]
    have e1:kidsK (nodeP sz wd l o.seg) (o.at_) (paid+(1+obWords o)) (k+1)=([],r.2.1,r.2.2):=by rw [Hsu.out,if_pos Hok.out,if_neg her]
    have e2:kidsK (nodeP sz wd l o.seg) (o.at_) (paid+(1+obWords o)) (o.count).toNat=([],r.2.1,r.2.2):=(zqC _ _ _ (k:=k+1) (by rw [e1];exact her) (by omega)).trans e1
    have E:Hid (nodeP sz wd (l+1) seg at_ paid=(tr0,r.2.1,r.2.2)):=LH (E0.out.trans ((zzD (at0:=o.at_) (n:=(o.count).toNat) (by rw [HC.out];rfl) (by rw [HC.out];rfl) (by rw [e2];exact her)).trans (by rw [e2])))
    have HNS:=LH HM.out.ns
    clear her e1 e2 n0 n1 n2 n3 n4 nf
    obtain ⟨n0,n1,n2,n3,n4,nf⟩:=zA HNS.out.nod
    have HNE:=LH (HNS.out.all (.int .i64 0) (.int .i64 0) (.slice none 0 0) (.slice none 0 0) (.slice none 0 0))
    go_wp2
    (try simp only [Exit.inBlock,Exit.then])
    obtain ⟨r0,r1,r2,r3,r4,rf⟩:=zA HNE.out.nod
    refine bodyPost_ret (v:=.tuple #[.agg qA,.int .u16 r.2.1]) ?_ rfl (zk HNE.out (er:=r.2.1) E.out)
    rw [results_cell_tmp rfl];go_simp
   have eb:(r.2.1 != 0)=false:=by simp [her]
   have e1:kidsK (nodeP sz wd l o.seg) (o.at_) (paid+(1+obWords o)) (k+1)=((kidsK (nodeP sz wd l o.seg) (o.at_) (paid+(1+obWords o)) k).1++[r.1],0,r.2.2):=by rw [Hsu.out,if_pos Hok.out,if_pos her]
   have He1:=LH e1
   clear e1 her
   have HSRC:Hid (((w4.alloc (.cells #[r.1.kind,r.1.size,.slice B1 r.1.ws.length d1,.slice B2 r.1.bs.length d2,.slice B3 r.1.kids.length d3] 114)).alloc (.cells #[r.1.kind,r.1.size,.slice B1 r.1.ws.length d1,.slice B2 r.1.bs.length d2,.slice B3 r.1.kids.length d3] 114)).heap[w4.heap.size+1]? = some (.cells #[r.1.kind,r.1.size,.slice B1 r.1.ws.length d1,.slice B2 r.1.bs.length d2,.slice B3 r.1.kids.length d3] 114)):=LH (by have:=heap_alloc_new (w4.alloc (.cells #[r.1.kind,r.1.size,.slice B1 r.1.ws.length d1,.slice B2 r.1.bs.length d2,.slice B3 r.1.kids.length d3] 114)) (.cells #[r.1.kind,r.1.size,.slice B1 r.1.ws.length d1,.slice B2 r.1.bs.length d2,.slice B3 r.1.kids.length d3] 114);simpa using this)
   have HSZ:Hid (w1.heap.size+1≤((w4.alloc (.cells #[r.1.kind,r.1.size,.slice B1 r.1.ws.length d1,.slice B2 r.1.bs.length d2,.slice B3 r.1.kids.length d3] 114)).alloc (.cells #[r.1.kind,r.1.size,.slice B1 r.1.ws.length d1,.slice B2 r.1.bs.length d2,.slice B3 r.1.kids.length d3] 114)).heap.size):=LH (by have:=(gE HM.out.ns.obj).1;simp at this ⊢;omega)
   go_wp2_with (at_builtin;refine zL _ rfl _ _ 112 112 rfl (w1.heap.size+1) 114 (.agg qA) 5 88 zv zZA rfl (.slice A4 k c4) k (kcs rows) rfl (.slice (some ⟨w4.heap.size+1,0,none⟩) 1 1) 1 [.int .i64 r.1.kind,.int .i64 r.1.size,.slice B1 r.1.ws.length d1,.slice B2 r.1.bs.length d2,.slice B3 r.1.kids.length d3] rfl ?_ (by exact zF HM.out.own ((Keep.refl NoB _).alloc _) (fun _ _ h=>h)) (by exact Src.ofSlice _ zv ⟨w4.heap.size+1,0,none⟩ 1 1 _ rfl (World.news_of_block (cs:=#[r.1.kind,r.1.size,.slice B1 r.1.ws.length d1,.slice B2 r.1.bs.length d2,.slice B3 r.1.kids.length d3]) (t:=114) (fr:=(0,0)) (by exact HSRC.out)) (by simp [Value.oneCell'])) (by simp only [maxLen];omega) (by omega) (by exact HSZ.out);intro v5 w5 hap;refine Hid.out ?_)
   refine LH ?_
   replace HM:=LH (HM.out.grow ((Keep.refl NoB _).alloc (.cells #[r.1.kind,r.1.size,.slice B1 r.1.ws.length d1,.slice B2 r.1.bs.length d2,.slice B3 r.1.kids.length d3] 114)))
   rw [show r.2.2=(kidsK (nodeP sz wd l o.seg) (o.at_) (paid+(1+obWords o)) (k+1)).2.2 from by rw [He1.out]] at HM
   have hfin:=HM.out.appended hap (by rw [He1.out]) (by rw [He1.out,List.map_append,HK.out.kids];rfl) HK.out.len (fun x hx=>by
    rcases List.mem_append.1 hx with e | e
    ·exact HK.out.trb x e
    ·rw [List.mem_singleton.1 e];exact Htb.out)
   obtain ⟨A6,c6,rfl,_⟩:=zK hap.own
   have HF:=LH hfin.1
   clear n0 n1 n2 n3 n4 nf t0 t1 t2 t3 t4 tf hap
   obtain ⟨n0,n1,n2,n3,n4,nf⟩:=zA hfin.2.nod
   clear hfin
   go_wp2
   go_roundw
   case rel=>exact ⟨k+1,by omega,by go_num,A6,c6,_,HF⟩
   case measure=>simp [intOf];omega
  ·obtain rfl:k=(o.count).toNat:=by omega
   have hlt':¬ (((o.count).toNat:Int)<o.count):=by omega
   have hN:(o.count).toNat≤1000000:=by omega
   have E:Hid (nodeP sz wd (l+1) seg at_ paid=(.mk o.kind o.size (wordsP wd o.seg o.at_ o.data.toNat) ([]) (kidsK (nodeP sz wd l o.seg) (o.at_) (paid+(1+obWords o)) (o.count).toNat).1,0,(kidsK (nodeP sz wd l o.seg) (o.at_) (paid+(1+obWords o)) (o.count).toNat).2.2)):=LH (E0.out.trans (zzA (by rw [HC.out];rfl) (by rw [HC.out];rfl) (by rw [HC.out];rfl) (by rw [HC.out];rfl) HK.out.ok))
   have HNE:=LH (HK.out.ns.all (.int .i64 o.kind) (.int .i64 o.size) (.slice A1 (wordsP wd o.seg o.at_ o.data.toNat).length c1) (.slice none 0 0) (.slice A4 (o.count).toNat c4))
   go_wp2
   (try simp only [Exit.inBlock,Exit.then])
   obtain ⟨r0,r1,r2,r3,r4,rf⟩:=zA HNE.out.nod
   refine bodyPost_ret (v:=.tuple #[.agg #[o.kind,o.size,.slice A1 (wordsP wd o.seg o.at_ o.data.toNat).length c1,qI,.slice A4 (o.count).toNat c4],.int .u16 0]) ?_ rfl (HK.out.post HNE.out (zb _ _ _ _ _) E.out (by rw [zm];omega) (by first | simp | (rw [zGA];omega)) (by omega))
   rw [results_cell_tmp rfl];go_simp
theorem ret5 {P:Program} {fn:Func} {R:Ending→World→Prop} {a:Act} {w0 w1:World} {b t:Nat} {x0 x1 x2 x3 x4 v0 v1 v2 v3 v4 e:Value} (hg:Grow w0 w1) (hb:w0.heap.size≤b) (hz:w1.heap[b]? = some (.cells #[x0,x1,x2,x3,x4] t (0,0))) (hr:∀ w':World,w'.cell? ⟨b,0,none⟩=some v0→w'.cell? ⟨b,1,none⟩=some v1→w'.cell? ⟨b,2,none⟩=some v2→w'.cell? ⟨b,3,none⟩=some v3→w'.cell? ⟨b,4,none⟩=some v4→(∀ o,w'.frozen? ⟨b,o,none⟩=false)→(results fn a.tmps).run P w'=.ok (.tuple #[.agg #[v0,v1,v2,v3,v4],e]) w') (hd:a.defers=[]) (hR:∀ w',Grow w0 w'→R (.returned (.tuple #[.agg #[v0,v1,v2,v3,v4],e])) w'):bodyPost P fn R .ret a (((((w1.setCell ⟨b,0,none⟩ v0).setCell ⟨b,1,none⟩ v1).setCell ⟨b,2,none⟩ v2).setCell ⟨b,3,none⟩ v3).setCell ⟨b,4,none⟩ v4):=by
 have h1:(((((w1.setCell ⟨b,0,none⟩ v0).setCell ⟨b,1,none⟩ v1).setCell ⟨b,2,none⟩ v2).setCell ⟨b,3,none⟩ v3).setCell ⟨b,4,none⟩ v4).heap[b]? = some (.cells #[v0,v1,v2,v3,v4] t (0,0)):=by
  simp only [World.setCell,Array.getElem?_modify]
  simp [hz]
 have h2:Grow w0 (((((w1.setCell ⟨b,0,none⟩ v0).setCell ⟨b,1,none⟩ v1).setCell ⟨b,2,none⟩ v2).setCell ⟨b,3,none⟩ v3).setCell ⟨b,4,none⟩ v4):=(((((hg.setCell (p:=⟨b,0,none⟩) (.inr hb) _).setCell (p:=⟨b,1,none⟩) (.inr hb) _).setCell (p:=⟨b,2,none⟩) (.inr hb) _).setCell (p:=⟨b,3,none⟩) (.inr hb) _).setCell (p:=⟨b,4,none⟩) (.inr hb) _)
 exact bodyPost_ret (hr _ (World.news_of_block h1 0 _ rfl) (World.news_of_block h1 1 _ rfl) (World.news_of_block h1 2 _ rfl) (World.news_of_block h1 3 _ rfl) (World.news_of_block h1 4 _ rfl) (fun o=>zN o h1)) hd (hR _ h2)
theorem ret7 {P:Program} {fn:Func} {R:Ending→World→Prop} {a:Act} {w0 w1:World} {b t:Nat} {x0 x1 x2 x3 x4 x5 x6 v0 v1 v2 v3 v4 v5 v6 e:Value} (hg:Grow w0 w1) (hb:w0.heap.size≤b) (hz:w1.heap[b]? = some (.cells #[x0,x1,x2,x3,x4,x5,x6] t (0,0))) (hr:∀ w':World,w'.cell? ⟨b,0,none⟩=some v0→w'.cell? ⟨b,1,none⟩=some v1→w'.cell? ⟨b,2,none⟩=some v2→w'.cell? ⟨b,3,none⟩=some v3→w'.cell? ⟨b,4,none⟩=some v4→w'.cell? ⟨b,5,none⟩=some v5→w'.cell? ⟨b,6,none⟩=some v6→(∀ o,w'.frozen? ⟨b,o,none⟩=false)→(results fn a.tmps).run P w'=.ok (.tuple #[.agg #[v0,v1,v2,v3,v4,v5,v6],e]) w') (hd:a.defers=[]) (hR:∀ w',Grow w0 w'→R (.returned (.tuple #[.agg #[v0,v1,v2,v3,v4,v5,v6],e])) w'):bodyPost P fn R .ret a (((((((w1.setCell ⟨b,0,none⟩ v0).setCell ⟨b,1,none⟩ v1).setCell ⟨b,2,none⟩ v2).setCell ⟨b,3,none⟩ v3).setCell ⟨b,4,none⟩ v4).setCell ⟨b,5,none⟩ v5).setCell ⟨b,6,none⟩ v6):=by
 have h1:(((((((w1.setCell ⟨b,0,none⟩ v0).setCell ⟨b,1,none⟩ v1).setCell ⟨b,2,none⟩ v2).setCell ⟨b,3,none⟩ v3).setCell ⟨b,4,none⟩ v4).setCell ⟨b,5,none⟩ v5).setCell ⟨b,6,none⟩ v6).heap[b]? = some (.cells #[v0,v1,v2,v3,v4,v5,v6] t (0,0)):=by
  simp only [World.setCell,Array.getElem?_modify]
  simp [hz]
 have h2:Grow w0 (((((((w1.setCell ⟨b,0,none⟩ v0).setCell ⟨b,1,none⟩ v1).setCell ⟨b,2,none⟩ v2).setCell ⟨b,3,none⟩ v3).setCell ⟨b,4,none⟩ v4).setCell ⟨b,5,none⟩ v5).setCell ⟨b,6,none⟩ v6):=(((((((hg.setCell (p:=⟨b,0,none⟩) (.inr hb) _).setCell (p:=⟨b,1,none⟩) (.inr hb) _).setCell (p:=⟨b,2,none⟩) (.inr hb) _).setCell (p:=⟨b,3,none⟩) (.inr hb) _).setCell (p:=⟨b,4,none⟩) (.inr hb) _).setCell (p:=⟨b,5,none⟩) (.inr hb) _).setCell (p:=⟨b,6,none⟩) (.inr hb) _)
 exact bodyPost_ret (hr _ (World.news_of_block h1 0 _ rfl) (World.news_of_block h1 1 _ rfl) (World.news_of_block h1 2 _ rfl) (World.news_of_block h1 3 _ rfl) (World.news_of_block h1 4 _ rfl) (World.news_of_block h1 5 _ rfl) (World.news_of_block h1 6 _ rfl) (fun o=>zN o h1)) hd (hR _ h2)
theorem ret8 {P:Program} {fn:Func} {R:Ending→World→Prop} {a:Act} {w0 w1:World} {b t:Nat} {x0 x1 x2 x3 x4 x5 x6 x7 v0 v1 v2 v3 v4 v5 v6 v7 e:Value} (hg:Grow w0 w1) (hb:w0.heap.size≤b) (hz:w1.heap[b]? = some (.cells #[x0,x1,x2,x3,x4,x5,x6,x7] t (0,0))) (hr:∀ w':World,w'.cell? ⟨b,0,none⟩=some v0→w'.cell? ⟨b,1,none⟩=some v1→w'.cell? ⟨b,2,none⟩=some v2→w'.cell? ⟨b,3,none⟩=some v3→w'.cell? ⟨b,4,none⟩=some v4→w'.cell? ⟨b,5,none⟩=some v5→w'.cell? ⟨b,6,none⟩=some v6→w'.cell? ⟨b,7,none⟩=some v7→(∀ o,w'.frozen? ⟨b,o,none⟩=false)→(results fn a.tmps).run P w'=.ok (.tuple #[.agg #[v0,v1,v2,v3,v4,v5,v6,v7],e]) w') (hd:a.defers=[]) (hR:∀ w',Grow w0 w'→R (.returned (.tuple #[.agg #[v0,v1,v2,v3,v4,v5,v6,v7],e])) w'):bodyPost P fn R .ret a ((((((((w1.setCell ⟨b,0,none⟩ v0).setCell ⟨b,1,none⟩ v1).setCell ⟨b,2,none⟩ v2).setCell ⟨b,3,none⟩ v3).setCell ⟨b,4,none⟩ v4).setCell ⟨b,5,none⟩ v5).setCell ⟨b,6,none⟩ v6).setCell ⟨b,7,none⟩ v7):=by
 have h1:((((((((w1.setCell ⟨b,0,none⟩ v0).setCell ⟨b,1,none⟩ v1).setCell ⟨b,2,none⟩ v2).setCell ⟨b,3,none⟩ v3).setCell ⟨b,4,none⟩ v4).setCell ⟨b,5,none⟩ v5).setCell ⟨b,6,none⟩ v6).setCell ⟨b,7,none⟩ v7).heap[b]? = some (.cells #[v0,v1,v2,v3,v4,v5,v6,v7] t (0,0)):=by
  simp only [World.setCell,Array.getElem?_modify]
  simp [hz]
 have h2:Grow w0 ((((((((w1.setCell ⟨b,0,none⟩ v0).setCell ⟨b,1,none⟩ v1).setCell ⟨b,2,none⟩ v2).setCell ⟨b,3,none⟩ v3).setCell ⟨b,4,none⟩ v4).setCell ⟨b,5,none⟩ v5).setCell ⟨b,6,none⟩ v6).setCell ⟨b,7,none⟩ v7):=((((((((hg.setCell (p:=⟨b,0,none⟩) (.inr hb) _).setCell (p:=⟨b,1,none⟩) (.inr hb) _).setCell (p:=⟨b,2,none⟩) (.inr hb) _).setCell (p:=⟨b,3,none⟩) (.inr hb) _).setCell (p:=⟨b,4,none⟩) (.inr hb) _).setCell (p:=⟨b,5,none⟩) (.inr hb) _).setCell (p:=⟨b,6,none⟩) (.inr hb) _).setCell (p:=⟨b,7,none⟩) (.inr hb) _)
 exact bodyPost_ret (hr _ (World.news_of_block h1 0 _ rfl) (World.news_of_block h1 1 _ rfl) (World.news_of_block h1 2 _ rfl) (World.news_of_block h1 3 _ rfl) (World.news_of_block h1 4 _ rfl) (World.news_of_block h1 5 _ rfl) (World.news_of_block h1 6 _ rfl) (World.news_of_block h1 7 _ rfl) (fun o=>zN o h1)) hd (hR _ h2)
theorem zNB {P:Program} {ops:Array Oper} {Q:Exit→Act→World→Prop} {ds:List Nat} {S:Nat→Prop} {R:Act→World→Prop} {acts reads rest:List Nat} {i:Nat} {o:Oper} {a:Act} {w:World} {T t:Nat} {x0 x1 x2 x3 x4 x5 x6 v0 v1 v2 v3 v4 v5 v6:Value} (hz:w.heap[T]? = some (.cells #[x0,x1,x2,x3,x4,x5,x6] t (0,0))) (z:∀ w',Keep (fun j=>j=T) w w'→w'.heap[T]? = some (.cells #[v0,v1,v2,v3,v4,v5,v6] t (0,0))→wpOrdC S P ops Q R acts reads ds rest a w') (hl:ops.toList[i]? = some o:=by exact rfl) (ha:acts.contains i=true:=by exact rfl) (hN:o.dst=none:=by exact rfl) (hg:o.guard=none:=by exact rfl) (hd:i∈ds:=by simp) (hy:(execOp a.eval o).run P w=.ok .skip (((((((w.setCell ⟨T,0,none⟩ v0).setCell ⟨T,1,none⟩ v1).setCell ⟨T,2,none⟩ v2).setCell ⟨T,3,none⟩ v3).setCell ⟨T,4,none⟩ v4).setCell ⟨T,5,none⟩ v5).setCell ⟨T,6,none⟩ v6):=by go_simp;with_reducible rfl):wpOrdC S P ops Q R acts reads ds (i :: rest) a w:=by
 refine zJ hl ha hN hg _ hy (fun h=>absurd hd h) (z _ ((((((((Keep.refl (fun j=>j=T) w).setCell (p:=⟨T,0,none⟩) (.inl rfl) _).setCell (p:=⟨T,1,none⟩) (.inl rfl) _).setCell (p:=⟨T,2,none⟩) (.inl rfl) _).setCell (p:=⟨T,3,none⟩) (.inl rfl) _).setCell (p:=⟨T,4,none⟩) (.inl rfl) _).setCell (p:=⟨T,5,none⟩) (.inl rfl) _).setCell (p:=⟨T,6,none⟩) (.inl rfl) _) ?_)
 simp only [World.setCell,Array.getElem?_modify]
 simp [hz]
end Go.Proofs.YtfkcpaahdlkcdaaGreat

import Derived.Test.YtfkcpaahdlkcdaaGreatRRecvSum01
import Derived.Test.YtfkcpaahdlkcdaaGreatRRecvSum03
import Derived.Test.YtfkcpaahdlkcdaaGreatRRecvSum04
import Derived.RangeFuncNested
import Derived.RangeFuncBound
import Derived.RangeFuncCalls
import Derived.RangeFuncLeaves
import Derived.Shelf.Abstract
import Derived.Shelf.RegionOpen
import Derived.WalkKit
import Derived.OwnWalkIn
import Derived.TacticsInMore
import Derived.LoopNIn
import Derived.LoopIn
import Derived.RangeFuncBox
import Derived.Maps.AppendAt
import Derived.OrdersIn
import Derived.Laws.BitsAllLaws
set_option linter.unusedSimpArgs false
set_option linter.unusedVariables false
set_option maxRecDepth 100000
set_option maxHeartbeats 16000000
namespace Go.Proofs.YtfkcpaahdlkcdaaGreat
open Go.RowKit
theorem ziK {sz:List Int} {wd:Int→Int→Int×Int} (ho:SouOk sz wd) {l:Nat} (IH:Hid (NodeAt sz wd l)) (hll:l≤1000) (sv:Value) (W0:World) (D:Nat) (paid seg at_:Int) (w:World) (hS:Sou sv sz wd W0) (hD:Dec D sv paid w) (hD0:W0.heap.size≤D) (hg:Grow W0 w) (p0:0≤paid) (p1:paid≤8192) (hcase:(followP sz wd seg at_).1.size=6) (hkz:(followP sz wd seg at_).1.kind≠0) :
    Calls Tryz.prog 244 #[.pointer (some ⟨D,0,none⟩),.int .i64 seg,.int .i64 at_,.int .i64 (l+1:Nat)] w (NPost (nodeP sz wd (l+1) seg at_ paid) D sv w):=by
 obtain ⟨T,pv,fw,fs,r,rfl,-⟩:=hS.out
 have HSO:=LH ho
 have HS0:=LH hS
 have hg0:=(Keep.refl NoB w).alloc (.cells #[.int .i64 0,.int .i64 0,.slice none 0 0,.slice none 0 0,.slice none 0 0] 114)
 have HS:=LH (hS.grow (hg.grow hg0))
 have dc0:=(hD.grow hg0).c0
 have HD:=LH (And.intro hD (And.intro hD0 hg))
 have E0:Hid (nodeP sz wd (l+1) seg at_ paid=nodeS sz wd false (nodeP sz wd l) seg at_ paid):=LH rfl
 clear hS hD hD0 hg hg0 ho
 go_enter Tryz.func244,Tryz.ntmps244
 go_wp2_with fail
 refine (zZA HS.out HSO.out seg at_).mono ?_
 rintro e w1 ⟨rfl,hg1⟩
 have HO:=LH (zn HSO.out seg at_)
 unfold nodeS at E0
 generalize (followP sz wd seg at_).1=o at *
 generalize (followP sz wd seg at_).2=fe at *
 have HNS:=LH (zTB (o:=o) HD.out.1 HD.out.2.1 HD.out.2.2 hg1)
 clear hg1 dc0
 have HC:=LH hcase
 have HKZ:=LH hkz
 clear hcase hkz
 by_cases he:fe=0
 case neg =>
  have eb:(fe != 0)=true:=by simp [he]
  have E:=LH (E0.out.trans (if_neg he))
  clear he
  obtain ⟨n0,n1,n2,n3,n4,nf⟩:=zA HNS.out.nod
  have HNE:=LH (HNS.out.all (.int .i64 0) (.int .i64 0) (.slice none 0 0) (.slice none 0 0) (.slice none 0 0))
  go_wp2
  (try simp only [Exit.inBlock,Exit.then])
  obtain ⟨r0,r1,r2,r3,r4,rf⟩:=zA HNE.out.nod
  refine bodyPost_ret (v:=.tuple #[.agg #[.int .i64 0,.int .i64 0,.slice none 0 0,.slice none 0 0,.slice none 0 0],.int .u16 fe]) ?_ rfl (zg HNE.out (er:=fe) E.out)
  rw [results_cell_tmp rfl];go_simp
 subst he
 replace E0:=LH (E0.out.trans (if_pos (by simp)))
 replace E0:=LH (E0.out.trans (if_neg (by simp)))
 obtain ⟨o0,o1,o2,o3,o4,o5,o6,of⟩:=zC HNS.out.drew.obj
 have hD1:=HNS.out.drew.dec.c1
 have hDf:=zM 1 HNS.out.drew.dec
 have hDc0:=HNS.out.drew.dec.c0
 have how:=zv HO.out
 have hw0:=how.1
 have hw1:=how.2
 have HNP:=LH (HNS.out.drew)
 have hs1:IntKind.i64.wrap (1+obWords o)=1+obWords o:=IntWalk.i64_in _ (by omega)
 have hs2:IntKind.i64.wrap (paid+(1+obWords o))=paid+(1+obWords o):=IntWalk.i64_in _ (by omega)
 clear how
 go_wp2
 refine zD [0,1,2,3,4,5,6,7,8,9,10] [5,10] [3,4] [10] rfl (by kernel_rfl) ?_
 iterate 3
  refine ord_p ?_
 refine ord_r (y:=by intro w' hg;have q:=hg.cell hD1 (fun h=>h);go_simp;with_reducible rfl) (z:=?_)
 refine ord_r (y:=by intro w' hg;have q0:=hg.cell o0 (fun h=>h);have q1:=hg.cell o1 (fun h=>h);have q2:=hg.cell o2 (fun h=>h);have q3:=hg.cell o3 (fun h=>h);have q4:=hg.cell o4 (fun h=>h);have q5:=hg.cell o5 (fun h=>h);have q6:=hg.cell o6 (fun h=>h);go_simp;with_reducible rfl) (z:=?_)
 refine zG rfl rfl rfl rfl rfl Tryz.func264 rfl rfl [.agg #[.int .i64 o.kind,.int .i64 o.seg,.int .i64 o.at_,.int .i64 o.data,.int .i64 o.ptrs,.int .i64 o.size,.int .i64 o.count]] rfl ?_
 refine (zYA o _ HO.out.ok).mono ?_
 rintro e w2 ⟨rfl,hg2⟩
 refine ⟨_,rfl,fun _=>hg2,?_⟩
 have HNQ:=LH (HNP.out.grow hg2)
 have hD1':=HNQ.out.dec.c1
 have hDf':=zM 1 HNQ.out.dec
 clear hg2 o0 o1 o2 o3 o4 o5 o6 of hD1 hDf hDc0
 simp only [Act.put,pB,pC,pD]
 iterate 4
  refine ord_p ?_
 refine zK rfl rfl rfl rfl ?_ ?_ (fun h=>absurd (by simp) h) ?_
 rotate_left
 ·go_simp;with_reducible rfl
 refine zF ?_
 replace HNS:=LH (HNQ.out.pay (paid+(1+obWords o)))
 clear HNP HNQ hD1' hDf' hs1 hs2
 generalize w2.setCell ⟨D,1,none⟩ (.int .i64 (paid+(1+obWords o)))=cw at HNS ⊢
 obtain ⟨o0,o1,o2,o3,o4,o5,o6,of⟩:=zC HNS.out.obj
 have hl0:((l:Int)+1==0)=false:=beq_eq_false_iff_ne.2 (by omega)
 have hD1:=HNS.out.dec.c1
 by_cases hp:8192<paid+(1+obWords o)
 ·have E:=LH (E0.out.trans (if_pos hp))
  have eb:(o.kind != 0)=true:=by have:=HKZ.out;simp [this]
  obtain ⟨n0,n1,n2,n3,n4,nf⟩:=zA HNS.out.nod
  have HNE:=LH (HNS.out.all (.int .i64 0) (.int .i64 0) (.slice none 0 0) (.slice none 0 0) (.slice none 0 0))
  go_wp2
  (try simp only [Exit.inBlock,Exit.then])
  obtain ⟨r0,r1,r2,r3,r4,rf⟩:=zA HNE.out.nod
  refine bodyPost_ret (v:=.tuple #[.agg #[.int .i64 0,.int .i64 0,.slice none 0 0,.slice none 0 0,.slice none 0 0],.int .u16 22]) ?_ rfl (zg HNE.out (er:=22) E.out)
  rw [results_cell_tmp rfl];go_simp
 replace E0:=LH (E0.out.trans (if_neg hp))
 have hpp:paid+(1+obWords o)≤8192:=by omega
 clear hp
 have da0:0≤o.data:=HO.out.ok.d.1
 have da1:o.data≤65535:=HO.out.ok.d.2
 have at0:0≤o.at_:=HO.out.at0
 have pt0:0≤o.ptrs:=HO.out.ok.q.1
 have pt1:o.ptrs≤65535:=HO.out.ok.q.2
 have ct0:0≤o.count:=HO.out.ok.c.1
 have hcs:=HO.out.cases
 have hsz:=HC.out
 have hc2:o.kind=2∧o.data=0∧o.ptrs=0∧o.at_+o.count≤100000:=by
  rcases hcs with h | h | h
  ·rw [h] at hsz;simp [ob0] at hsz
  ·omega
  ·omega
 have at1:o.at_≤100000:=by omega
 have ct1:o.count≤100000:=by omega
 have hpt:o.ptrs≤0:=by omega
 have hdt0:o.data.toNat≤1000000:=by omega
 have Hc2:=LH hc2
 clear hc2
 have hz2:(o.size==2)=false:=by simp [hsz]
 have hz5:(o.size==5)=false:=by simp [hsz]
 have hz6:(o.size==6)=true:=by simp [hsz]
 have eb:(o.kind != 0)=true:=by have:=HKZ.out;simp [this]
 clear hcs hsz
 obtain ⟨n0,n1,n2,n3,n4,nf⟩:=zA HNS.out.nod
 go_wp2
 go_region
 replace HNS:=LH (((HNS.out.put 0 (.int .i64 o.kind) _ _ _ _ _ (by omega) rfl).put 1 (.int .i64 o.size) _ _ _ _ _ (by omega) rfl).drew)
 clear o0 o1 o2 o3 o4 o5 o6 of n0 n1 n2 n3 n4 nf hD1
 generalize ((cw.setCell ⟨w.heap.size,0,none⟩ (.int .i64 o.kind)).setCell ⟨w.heap.size,1,none⟩ (.int .i64 o.size)).drew=cv at HNS ⊢
 obtain ⟨o0,o1,o2,o3,o4,o5,o6,of⟩:=zC HNS.out.obj
 have hs3:IntKind.i64.wrap (o.at_+o.data)=o.at_+o.data:=IntWalk.i64_in _ (by omega)
 go_wp2
 go_region
 replace HNS:=LH HNS.out.drew
 clear o0 o1 o2 o3 o4 o5 o6 of hs3
 generalize cv.drew=cu at HNS ⊢
 obtain ⟨o0,o1,o2,o3,o4,o5,o6,of⟩:=zC HNS.out.obj
 have hO1:w1.heap.size+1≤cu.heap.size:=(gE HNS.out.obj).1
 have hNO:w.heap.size<w1.heap.size:=HNS.out.lo.2.2.2
 have hNOn:w.heap.size≠w1.heap.size:=by omega
 go_wp2_with fail
 refine (zdA HNS.out.dec (HS0.out.grow HNS.out.base) o.seg o.at_ o.data da0 at0 (by omega)).mono ?_
 rintro e w3 ⟨A1,c1,rfl,hg,ho1⟩
 replace HNS:=LH (HNS.out.grow hg)
 have HW:=LH (zmA ho1 hO1)
 clear hg ho1 o0 o1 o2 o3 o4 o5 o6 of hO1
 obtain ⟨o0,o1,o2,o3,o4,o5,o6,of⟩:=zC HNS.out.obj
 obtain ⟨n0,n1,n2,n3,n4,nf⟩:=zA HNS.out.nod
 go_wp2
 replace HNS:=LH (HNS.out.put 2 (.slice A1 (wordsP wd o.seg o.at_ o.data.toNat).length c1) _ _ _ _ _ (by omega) rfl)
 replace HW:=LH (zaA HW.out (N:=w.heap.size) (by omega) 2 (.slice A1 (wordsP wd o.seg o.at_ o.data.toNat).length c1))
 generalize w3.setCell ⟨w.heap.size,2,none⟩ (.slice A1 (wordsP wd o.seg o.at_ o.data.toNat).length c1)=c3 at HNS HW ⊢
 clear o0 o1 o2 o3 o4 o5 o6 of n0 n1 n2 n3 n4 nf
 obtain ⟨o0,o1,o2,o3,o4,o5,o6,of⟩:=zC HNS.out.obj
 go_region
 replace HNS:=LH HNS.out.drew
 replace HW:=LH (zE HW.out (Keep.refl NoB c3).drew (fun _ _ h=>h))
 clear o0 o1 o2 o3 o4 o5 o6 of
 generalize c3.drew=c2 at HNS HW ⊢
 have HV:=LH (World.ownsRow_nil c2 (w1.heap.size+1) 5 1)
 go_wp2
 have HK0:=LH (KL.begin (bs:=[]) (at0:=o.at_) (f:=nodeP sz wd l o.seg) HNS.out HW.out HV.out)
 clear HNS HW HV
 go_loopw [109] (fun v wr=>∃ (k:Nat),k≤(o.count).toNat∧v=.int .i64 k∧∃ A4 c4 rows,Hid (KL W0 w D w.heap.size w1.heap.size (.iface T pv) o (nodeP sz wd l o.seg) (o.at_) (paid+(1+obWords o)) (wordsP wd o.seg o.at_ o.data.toNat) ([]) (.slice A1 (wordsP wd o.seg o.at_ o.data.toNat).length c1) (.slice none 0 0) k (.slice A4 k c4) rows wr)) (fun v _=>(o.count).toNat-(intOf v).toNat)
 case atStart=>exact ⟨0,by omega,rfl,none,0,[],HK0⟩
 case round =>
  clear HK0
  obtain ⟨k,hk,rfl,A4,c4,rows,HK⟩:=hrel
  obtain ⟨o0,o1,o2,o3,o4,o5,o6,of⟩:=zC HK.out.ns.obj
  obtain ⟨n0,n1,n2,n3,n4,nf⟩:=zA HK.out.ns.nod
  by_cases hlt:k<(o.count).toNat
  ·have hlt':(k:Int)<o.count:=by omega
   have hkk:(k:Int)≤200000:=by omega
   have hw:IntKind.i64.wrap ((k:Int)+1)=(k:Int)+1:=IntWalk.i64_in _ (by omega)
   have hl1:IntKind.i64.wrap ((l:Int)+1-1)=l:=by rw [show (l:Int)+1-1=l from by omega];exact IntWalk.i64_in _ (by omega)
   have hpd:=zMB (f:=nodeP sz wd l o.seg) (at0:=o.at_) (zfB HSO.out l o.seg) (show 0≤paid+(1+obWords o) by omega) hpp k HK.out.ok
   have Hpd:=LH hpd
   clear hpd
   go_wp2_with fail
   refine (IH.out (.iface T pv) W0 D (kidsK (nodeP sz wd l o.seg) (o.at_) (paid+(1+obWords o)) k).2.2 o.seg (o.at_+k) wr HS0.out HK.out.ns.dec HD.out.2.1 HK.out.ns.base Hpd.out.1 Hpd.out.2).mono ?_
   rintro e w4 ⟨xw,xb,xk,rfl,hdec,hkeep,hfoot,htrb⟩
   have Hsu:Hid (kidsK (nodeP sz wd l o.seg) (o.at_) (paid+(1+obWords o)) (k+1)=if (kidsK (nodeP sz wd l o.seg) (o.at_) (paid+(1+obWords o)) k).2.1=0 then (if (nodeP sz wd l o.seg (o.at_+k) (kidsK (nodeP sz wd l o.seg) (o.at_) (paid+(1+obWords o)) k).2.2).2.1=0 then ((kidsK (nodeP sz wd l o.seg) (o.at_) (paid+(1+obWords o)) k).1++[(nodeP sz wd l o.seg (o.at_+k) (kidsK (nodeP sz wd l o.seg) (o.at_) (paid+(1+obWords o)) k).2.2).1],0,(nodeP sz wd l o.seg (o.at_+k) (kidsK (nodeP sz wd l o.seg) (o.at_) (paid+(1+obWords o)) k).2.2).2.2) else ([],(nodeP sz wd l o.seg (o.at_+k) (kidsK (nodeP sz wd l o.seg) (o.at_) (paid+(1+obWords o)) k).2.2).2.1,(nodeP sz wd l o.seg (o.at_+k) (kidsK (nodeP sz wd l o.seg) (o.at_) (paid+(1+obWords o)) k).2.2).2.2)) else kidsK (nodeP sz wd l o.seg) (o.at_) (paid+(1+obWords o)) k):=LH rfl
   have Hok:=LH HK.out.ok
   obtain ⟨B1,d1,B2,d2,B3,d3,rfl,rfl,rfl⟩:=hfoot.now.parts
   have HM:=LH (HK.out.called hdec hkeep hfoot)
   have Htb:=LH htrb
   clear hdec hkeep hfoot htrb o0 o1 o2 o3 o4 o5 o6 of n0 n1 n2 n3 n4 nf
   generalize nodeP sz wd l o.seg (o.at_+k) (kidsK (nodeP sz wd l o.seg) (o.at_) (paid+(1+obWords o)) k).2.2=r at *
   have hga:=(Keep.refl NoB w4).alloc (.cells #[.int .i64 r.1.kind,.int .i64 r.1.size,.slice B1 r.1.ws.length d1,.slice B2 r.1.bs.length d2,.slice B3 r.1.kids.length d3] 114)
   have hna:=heap_alloc_new w4 (.cells #[.int .i64 r.1.kind,.int .i64 r.1.size,.slice B1 r.1.ws.length d1,.slice B2 r.1.bs.length d2,.slice B3 r.1.kids.length d3] 114)
   replace HM:=LH (HM.out.grow hga)
   have HNA:=LH hna
   clear hga hna
   obtain ⟨t0,t1,t2,t3,t4,tf⟩:=zA HNA.out
   obtain ⟨n0,n1,n2,n3,n4,nf⟩:=zA HM.out.ns.nod
   by_cases her:r.2.1=0
   case neg =>
    have eb:(r.2.1 != 0)=true:=by simp [her]
    have e1:kidsK (nodeP sz wd l o.seg) (o.at_) (paid+(1+obWords o)) (k+1)=([],r.2.1,r.2.2):=by rw [Hsu.out,if_pos Hok.out,if_neg her]
    have e2:kidsK (nodeP sz wd l o.seg) (o.at_) (paid+(1+obWords o)) (o.count).toNat=([],r.2.1,r.2.2):=(ziC _ _ _ (k:=k+1) (by rw [e1];exact her) (by omega)).trans e1
    have E:Hid (nodeP sz wd (l+1) seg at_ paid=(tr0,r.2.1,r.2.2)):=LH (E0.out.trans ((zqD (at0:=o.at_) (n:=(o.count).toNat) (by rw [HC.out];rfl) (by rw [HC.out];rfl) (by rw [e2];exact her)).trans (by rw [e2])))
    have HNS:=LH HM.out.ns
    clear her e1 e2 n0 n1 n2 n3 n4 nf
    obtain ⟨n0,n1,n2,n3,n4,nf⟩:=zA HNS.out.nod
    have HNE:=LH (HNS.out.all (.int .i64 0) (.int .i64 0) (.slice none 0 0) (.slice none 0 0) (.slice none 0 0))
    go_wp2
    (try simp only [Exit.inBlock,Exit.then])
    obtain ⟨r0,r1,r2,r3,r4,rf⟩:=zA HNE.out.nod
    refine bodyPost_ret (v:=.tuple #[.agg #[.int .i64 0,.int .i64 0,.slice none 0 0,.slice none 0 0,.slice none 0 0],.int .u16 r.2.1]) ?_ rfl (zg HNE.out (er:=r.2.1) E.out)
    rw [results_cell_tmp rfl];go_simp
   have eb:(r.2.1 != 0)=false:=by simp [her]
   have e1:kidsK (nodeP sz wd l o.seg) (o.at_) (paid+(1+obWords o)) (k+1)=((kidsK (nodeP sz wd l o.seg) (o.at_) (paid+(1+obWords o)) k).1++[r.1],0,r.2.2):=by rw [Hsu.out,if_pos Hok.out,if_pos her]
   have He1:=LH e1
   clear e1 her
   have HSRC:Hid (((w4.alloc (.cells #[.int .i64 r.1.kind,.int .i64 r.1.size,.slice B1 r.1.ws.length d1,.slice B2 r.1.bs.length d2,.slice B3 r.1.kids.length d3] 114)).alloc (.cells #[.int .i64 r.1.kind,.int .i64 r.1.size,.slice B1 r.1.ws.length d1,.slice B2 r.1.bs.length d2,.slice B3 r.1.kids.length d3] 114)).heap[w4.heap.size+1]? = some (.cells #[.int .i64 r.1.kind,.int .i64 r.1.size,.slice B1 r.1.ws.length d1,.slice B2 r.1.bs.length d2,.slice B3 r.1.kids.length d3] 114)):=LH (by have:=heap_alloc_new (w4.alloc (.cells #[.int .i64 r.1.kind,.int .i64 r.1.size,.slice B1 r.1.ws.length d1,.slice B2 r.1.bs.length d2,.slice B3 r.1.kids.length d3] 114)) (.cells #[.int .i64 r.1.kind,.int .i64 r.1.size,.slice B1 r.1.ws.length d1,.slice B2 r.1.bs.length d2,.slice B3 r.1.kids.length d3] 114);simpa using this)
   have HSZ:Hid (w1.heap.size+1≤((w4.alloc (.cells #[.int .i64 r.1.kind,.int .i64 r.1.size,.slice B1 r.1.ws.length d1,.slice B2 r.1.bs.length d2,.slice B3 r.1.kids.length d3] 114)).alloc (.cells #[.int .i64 r.1.kind,.int .i64 r.1.size,.slice B1 r.1.ws.length d1,.slice B2 r.1.bs.length d2,.slice B3 r.1.kids.length d3] 114)).heap.size):=LH (by have:=(gE HM.out.ns.obj).1;simp at this ⊢;omega)
   go_wp2_with (at_builtin;refine zL _ rfl _ _ 112 112 rfl (w1.heap.size+1) 114 (.agg #[.int .i64 0,.int .i64 0,.slice none 0 0,.slice none 0 0,.slice none 0 0]) 5 88 zt zVA rfl (.slice A4 k c4) k (kcs rows) rfl (.slice (some ⟨w4.heap.size+1,0,none⟩) 1 1) 1 [.int .i64 r.1.kind,.int .i64 r.1.size,.slice B1 r.1.ws.length d1,.slice B2 r.1.bs.length d2,.slice B3 r.1.kids.length d3] rfl ?_ (by exact zE HM.out.own ((Keep.refl NoB _).alloc _) (fun _ _ h=>h)) (by exact Src.ofSlice _ zt ⟨w4.heap.size+1,0,none⟩ 1 1 _ rfl (World.news_of_block (cs:=#[.int .i64 r.1.kind,.int .i64 r.1.size,.slice B1 r.1.ws.length d1,.slice B2 r.1.bs.length d2,.slice B3 r.1.kids.length d3]) (t:=114) (fr:=(0,0)) (by exact HSRC.out)) (by simp [Value.oneCell'])) (by simp only [maxLen];omega) (by omega) (by exact HSZ.out);intro v5 w5 hap;refine Hid.out ?_)
   refine LH ?_
   replace HM:=LH (HM.out.grow ((Keep.refl NoB _).alloc (.cells #[.int .i64 r.1.kind,.int .i64 r.1.size,.slice B1 r.1.ws.length d1,.slice B2 r.1.bs.length d2,.slice B3 r.1.kids.length d3] 114)))
   rw [show r.2.2=(kidsK (nodeP sz wd l o.seg) (o.at_) (paid+(1+obWords o)) (k+1)).2.2 from by rw [He1.out]] at HM
   have hfin:=HM.out.appended hap (by rw [He1.out]) (by rw [He1.out,List.map_append,HK.out.kids];rfl) HK.out.len (fun x hx=>by
    rcases List.mem_append.1 hx with e | e
    ·exact HK.out.trb x e
    ·rw [List.mem_singleton.1 e];exact Htb.out)
   obtain ⟨A6,c6,rfl,_⟩:=zJ hap.own
   have HF:=LH hfin.1
   clear n0 n1 n2 n3 n4 nf t0 t1 t2 t3 t4 tf hap
   obtain ⟨n0,n1,n2,n3,n4,nf⟩:=zA hfin.2.nod
   clear hfin
   go_wp2
   go_roundw
   case rel=>exact ⟨k+1,by omega,by go_num,A6,c6,_,HF⟩
   case measure=>simp [intOf];omega
  ·obtain rfl:k=(o.count).toNat:=by omega
   have hlt':¬ (((o.count).toNat:Int)<o.count):=by omega
   have hN:(o.count).toNat≤1000000:=by omega
   have E:Hid (nodeP sz wd (l+1) seg at_ paid=(.mk o.kind o.size (wordsP wd o.seg o.at_ o.data.toNat) ([]) (kidsK (nodeP sz wd l o.seg) (o.at_) (paid+(1+obWords o)) (o.count).toNat).1,0,(kidsK (nodeP sz wd l o.seg) (o.at_) (paid+(1+obWords o)) (o.count).toNat).2.2)):=LH (E0.out.trans (ztA (by rw [HC.out];rfl) (by rw [HC.out];rfl) (by rw [HC.out];rfl) (by rw [HC.out];rfl) HK.out.ok))
   have HNE:=LH (HK.out.ns.all (.int .i64 o.kind) (.int .i64 o.size) (.slice A1 (wordsP wd o.seg o.at_ o.data.toNat).length c1) (.slice none 0 0) (.slice A4 (o.count).toNat c4))
   go_wp2
   (try simp only [Exit.inBlock,Exit.then])
   obtain ⟨r0,r1,r2,r3,r4,rf⟩:=zA HNE.out.nod
   refine bodyPost_ret (v:=.tuple #[.agg #[.int .i64 o.kind,.int .i64 o.size,.slice A1 (wordsP wd o.seg o.at_ o.data.toNat).length c1,.slice none 0 0,.slice A4 (o.count).toNat c4],.int .u16 0]) ?_ rfl (HK.out.post HNE.out (zb _ _ _ _ _) E.out (by rw [zj];omega) (by first | simp | (rw [zGA];omega)) (by omega))
   rw [results_cell_tmp rfl];go_simp
theorem zPI {sz:List Int} {wd:Int→Int→Int×Int} (ho:SouOk sz wd) {l:Nat} (sv:Value) (W0:World) (D:Nat) (paid seg at_:Int) (w:World) (hS:Sou sv sz wd W0) (hD:Dec D sv paid w) (hD0:W0.heap.size≤D) (hg:Grow W0 w) (p0:0≤paid) (p1:paid≤8192) (hkz:(followP sz wd seg at_).1.kind=0) :
    Calls Tryz.prog 244 #[.pointer (some ⟨D,0,none⟩),.int .i64 seg,.int .i64 at_,.int .i64 (l+1:Nat)] w (NPost (nodeP sz wd (l+1) seg at_ paid) D sv w):=by
 obtain ⟨T,pv,fw,fs,r,rfl,-⟩:=hS.out
 have HSO:=LH ho
 have HS0:=LH hS
 have hg0:=(Keep.refl NoB w).alloc (.cells #[.int .i64 0,.int .i64 0,.slice none 0 0,.slice none 0 0,.slice none 0 0] 114)
 have HS:=LH (hS.grow (hg.grow hg0))
 have dc0:=(hD.grow hg0).c0
 have HD:=LH (And.intro hD (And.intro hD0 hg))
 have E0:Hid (nodeP sz wd (l+1) seg at_ paid=nodeS sz wd false (nodeP sz wd l) seg at_ paid):=LH rfl
 clear hS hD hD0 hg hg0 ho
 go_enter Tryz.func244,Tryz.ntmps244
 go_wp2_with fail
 refine (zZA HS.out HSO.out seg at_).mono ?_
 rintro e w1 ⟨rfl,hg1⟩
 have HO:=LH (zn HSO.out seg at_)
 unfold nodeS at E0
 generalize (followP sz wd seg at_).1=o at *
 generalize (followP sz wd seg at_).2=fe at *
 have HNS:=LH (zTB (o:=o) HD.out.1 HD.out.2.1 HD.out.2.2 hg1)
 clear hg1 dc0
 have HKZ:=LH hkz
 clear hkz
 by_cases he:fe=0
 case neg =>
  have eb:(fe != 0)=true:=by simp [he]
  have E:=LH (E0.out.trans (if_neg he))
  clear he
  obtain ⟨n0,n1,n2,n3,n4,nf⟩:=zA HNS.out.nod
  have HNE:=LH (HNS.out.all (.int .i64 0) (.int .i64 0) (.slice none 0 0) (.slice none 0 0) (.slice none 0 0))
  go_wp2
  (try simp only [Exit.inBlock,Exit.then])
  obtain ⟨r0,r1,r2,r3,r4,rf⟩:=zA HNE.out.nod
  refine bodyPost_ret (v:=.tuple #[.agg #[.int .i64 0,.int .i64 0,.slice none 0 0,.slice none 0 0,.slice none 0 0],.int .u16 fe]) ?_ rfl (zg HNE.out (er:=fe) E.out)
  rw [results_cell_tmp rfl];go_simp
 subst he
 replace E0:=LH (E0.out.trans (if_pos (by simp)))
 replace E0:=LH (E0.out.trans (if_neg (by simp)))
 obtain ⟨o0,o1,o2,o3,o4,o5,o6,of⟩:=zC HNS.out.drew.obj
 have hD1:=HNS.out.drew.dec.c1
 have hDf:=zM 1 HNS.out.drew.dec
 have hDc0:=HNS.out.drew.dec.c0
 have how:=zv HO.out
 have hw0:=how.1
 have hw1:=how.2
 have HNP:=LH (HNS.out.drew)
 have hs1:IntKind.i64.wrap (1+obWords o)=1+obWords o:=IntWalk.i64_in _ (by omega)
 have hs2:IntKind.i64.wrap (paid+(1+obWords o))=paid+(1+obWords o):=IntWalk.i64_in _ (by omega)
 clear how
 go_wp2
 refine zD [0,1,2,3,4,5,6,7,8,9,10] [5,10] [3,4] [10] rfl (by kernel_rfl) ?_
 iterate 3
  refine ord_p ?_
 refine ord_r (y:=by intro w' hg;have q:=hg.cell hD1 (fun h=>h);go_simp;with_reducible rfl) (z:=?_)
 refine ord_r (y:=by intro w' hg;have q0:=hg.cell o0 (fun h=>h);have q1:=hg.cell o1 (fun h=>h);have q2:=hg.cell o2 (fun h=>h);have q3:=hg.cell o3 (fun h=>h);have q4:=hg.cell o4 (fun h=>h);have q5:=hg.cell o5 (fun h=>h);have q6:=hg.cell o6 (fun h=>h);go_simp;with_reducible rfl) (z:=?_)
 refine zG rfl rfl rfl rfl rfl Tryz.func264 rfl rfl [.agg #[.int .i64 o.kind,.int .i64 o.seg,.int .i64 o.at_,.int .i64 o.data,.int .i64 o.ptrs,.int .i64 o.size,.int .i64 o.count]] rfl ?_
 refine (zYA o _ HO.out.ok).mono ?_
 rintro e w2 ⟨rfl,hg2⟩
 refine ⟨_,rfl,fun _=>hg2,?_⟩
 have HNQ:=LH (HNP.out.grow hg2)
 have hD1':=HNQ.out.dec.c1
 have hDf':=zM 1 HNQ.out.dec
 clear hg2 o0 o1 o2 o3 o4 o5 o6 of hD1 hDf hDc0
 simp only [Act.put,pB,pC,pD]
 iterate 4
  refine ord_p ?_
 refine zK rfl rfl rfl rfl ?_ ?_ (fun h=>absurd (by simp) h) ?_
 rotate_left
 ·go_simp;with_reducible rfl
 refine zF ?_
 replace HNS:=LH (HNQ.out.pay (paid+(1+obWords o)))
 clear HNP HNQ hD1' hDf' hs1 hs2
 generalize w2.setCell ⟨D,1,none⟩ (.int .i64 (paid+(1+obWords o)))=cw at HNS ⊢
 obtain ⟨o0,o1,o2,o3,o4,o5,o6,of⟩:=zC HNS.out.obj
 have eb:(o.kind != 0)=false:=by have:=HKZ.out;simp [this]
 have hob:o=ob0:=by
  have hk:=HKZ.out
  rcases HO.out.cases with h | h | h
  ·exact h
  ·have:=h.1;omega
  ·have:=h.1;omega
 have Hob:=LH hob
 clear hob
 have hD1:=HNS.out.dec.c1
 by_cases hp:8192<paid+(1+obWords o)
 ·have E:=LH (E0.out.trans (if_pos hp))
  obtain ⟨n0,n1,n2,n3,n4,nf⟩:=zA HNS.out.nod
  have HNE:=LH (HNS.out.all (.int .i64 0) (.int .i64 0) (.slice none 0 0) (.slice none 0 0) (.slice none 0 0))
  go_wp2
  (try simp only [Exit.inBlock,Exit.then])
  obtain ⟨r0,r1,r2,r3,r4,rf⟩:=zA HNE.out.nod
  refine bodyPost_ret (v:=.tuple #[.agg #[.int .i64 0,.int .i64 0,.slice none 0 0,.slice none 0 0,.slice none 0 0],.int .u16 22]) ?_ rfl (zg HNE.out (er:=22) E.out)
  rw [results_cell_tmp rfl];go_simp
 replace E0:=LH (E0.out.trans (if_neg hp))
 have hpp:paid+(1+obWords o)≤8192:=by omega
 clear hp
 have da0:0≤o.data:=HO.out.ok.d.1
 have da1:o.data≤65535:=HO.out.ok.d.2
 have at0:0≤o.at_:=HO.out.at0
 have at1:o.at_≤100000:=by rw [Hob.out];simp [ob0]
 have hz2:(o.size==2)=false:=by rw [Hob.out];rfl
 have hz5:(o.size==5)=false:=by rw [Hob.out];rfl
 have hz6:(o.size==6)=false:=by rw [Hob.out];rfl
 have hpt:o.ptrs≤0:=by rw [Hob.out];simp [ob0]
 have hdt:o.data.toNat≤1000000:=by omega
 obtain ⟨n0,n1,n2,n3,n4,nf⟩:=zA HNS.out.nod
 go_wp2
 go_region
 replace HNS:=LH (((HNS.out.put 0 (.int .i64 o.kind) _ _ _ _ _ (by omega) rfl).put 1 (.int .i64 o.size) _ _ _ _ _ (by omega) rfl).drew)
 clear o0 o1 o2 o3 o4 o5 o6 of n0 n1 n2 n3 n4 nf hD1
 generalize ((cw.setCell ⟨w.heap.size,0,none⟩ (.int .i64 o.kind)).setCell ⟨w.heap.size,1,none⟩ (.int .i64 o.size)).drew=cv at HNS ⊢
 obtain ⟨o0,o1,o2,o3,o4,o5,o6,of⟩:=zC HNS.out.obj
 have hs3:IntKind.i64.wrap (o.at_+o.data)=o.at_+o.data:=IntWalk.i64_in _ (by omega)
 go_wp2
 go_region
 replace HNS:=LH HNS.out.drew
 clear o0 o1 o2 o3 o4 o5 o6 of hs3
 generalize cv.drew=cu at HNS ⊢
 obtain ⟨o0,o1,o2,o3,o4,o5,o6,of⟩:=zC HNS.out.obj
 have hO1:w1.heap.size+1≤cu.heap.size:=(gE HNS.out.obj).1
 have hNO:w.heap.size<w1.heap.size:=HNS.out.lo.2.2.2
 have hNOn:w.heap.size≠w1.heap.size:=by omega
 go_wp2_with fail
 refine (zdA HNS.out.dec (HS0.out.grow HNS.out.base) o.seg o.at_ o.data da0 at0 (by omega)).mono ?_
 rintro e w3 ⟨A1,c1,rfl,hg,ho1⟩
 replace HNS:=LH (HNS.out.grow hg)
 have HW:=LH (zmA ho1 hO1)
 clear hg ho1 o0 o1 o2 o3 o4 o5 o6 of hO1
 obtain ⟨o0,o1,o2,o3,o4,o5,o6,of⟩:=zC HNS.out.obj
 obtain ⟨n0,n1,n2,n3,n4,nf⟩:=zA HNS.out.nod
 go_wp2
 replace HNS:=LH (HNS.out.put 2 (.slice A1 (wordsP wd o.seg o.at_ o.data.toNat).length c1) _ _ _ _ _ (by omega) rfl)
 replace HW:=LH (zaA HW.out (N:=w.heap.size) (by omega) 2 (.slice A1 (wordsP wd o.seg o.at_ o.data.toNat).length c1))
 generalize w3.setCell ⟨w.heap.size,2,none⟩ (.slice A1 (wordsP wd o.seg o.at_ o.data.toNat).length c1)=c2 at HNS HW ⊢
 have HV:=LH (World.ownsRow_nil c2 (w1.heap.size+1) 5 1)
 have hn0:(if o.size=6 then o.count else o.ptrs).toNat=0:=by rw [Hob.out];rfl
 have E:=LH (E0.out.trans (ztA (ws:=wordsP wd o.seg o.at_ o.data.toNat) (bs:=[]) (at0:=o.at_+o.data) (n:=0) (by rw [Hob.out];rfl) (by rw [Hob.out];rfl) (by rw [Hob.out];rfl) hn0 rfl))
 clear o0 o1 o2 o3 o4 o5 o6 of n0 n1 n2 n3 n4 nf hn0
 go_loopw [109] (fun v wr=>wr=c2∧v=.int .i64 0) (fun v _=>0)
 case atStart=>exact ⟨rfl,rfl⟩
 case round =>
  obtain ⟨rfl,rfl⟩:=hrel
  obtain ⟨n0,n1,n2,n3,n4,nf⟩:=zA HNS.out.nod
  have HNE:=LH (HNS.out.all (.int .i64 o.kind) (.int .i64 o.size) (.slice A1 (wordsP wd o.seg o.at_ o.data.toNat).length c1) (.slice none 0 0) (.slice none 0 0))
  go_wp2
  (try simp only [Exit.inBlock,Exit.then])
  obtain ⟨r0,r1,r2,r3,r4,rf⟩:=zA HNE.out.nod
  refine bodyPost_ret (v:=.tuple #[.agg #[.int .i64 o.kind,.int .i64 o.size,.slice A1 (wordsP wd o.seg o.at_ o.data.toNat).length c1,.slice none 0 0,.slice none 0 0],.int .u16 0]) ?_ rfl ((KL.begin (bs:=[]) (at0:=o.at_+o.data) (f:=(nodeP sz wd l o.seg)) HNS.out HW.out HV.out).post HNE.out (zb _ _ _ _ _) E.out (by rw [zj];omega) (by simp) (by omega))
  rw [results_cell_tmp rfl];go_simp
theorem zBH {sz:List Int} {wd:Int→Int→Int×Int} (ho:SouOk sz wd):∀ l:Nat,l≤1000→NodeAt sz wd l
 | 0,_=>fun sv W0 D paid seg at_ w hS hD hD0 hg p0 p1=>zOI ho sv W0 D paid seg at_ w hS hD hD0 hg p0 p1
 | l + 1, h => fun sv W0 D paid seg at_ w hS hD hD0 hg p0 p1 => by
  have ih:=LH (zBH ho l (by omega))
  rcases (zn ho seg at_).cases with e | ⟨hk,hs,_⟩ | ⟨hk,_,_,hs⟩
  ·exact zPI ho sv W0 D paid seg at_ w hS hD hD0 hg p0 p1 (by rw [e];rfl)
  ·exact zfK ho ih (by omega) sv W0 D paid seg at_ w hS hD hD0 hg p0 p1 hs (by omega)
  ·rcases hs with ⟨hs,_⟩ | ⟨hs,_⟩ | ⟨hs,_⟩
   ·exact zgK ho ih (by omega) sv W0 D paid seg at_ w hS hD hD0 hg p0 p1 hs (by omega)
   ·exact zhK ho ih (by omega) sv W0 D paid seg at_ w hS hD hD0 hg p0 p1 hs (by omega)
   ·exact ziK ho ih (by omega) sv W0 D paid seg at_ w hS hD hD0 hg p0 p1 hs (by omega)
def decP (a:List (List Int)):Tr×Int:=if fitsB (szs a)=true then ((nodeP (szs a) (wordA a) 32 0 0 0).1,(nodeP (szs a) (wordA a) 32 0 0 0).2.1) else (tr0,1)
def DPost (r:Tr×Int) (w:World) (e:Ending) (w':World):Prop :=
 ∃ A1 c1 A2 c2 A3 c3,e=.returned (.tuple #[.agg #[.int .i64 r.1.kind,.int .i64 r.1.size,.slice A1 r.1.ws.length c1,.slice A2 r.1.bs.length c2,.slice A3 r.1.kids.length c3],.int .u16 r.2])∧Grow w w' ∧
  TrR w' r.1 (.slice A1 r.1.ws.length c1) (.slice A2 r.1.bs.length c2) (.slice A3 r.1.kids.length c3)∧TrB r.1
theorem zXF (a:List (List Int)) (v:Value) (w:World) (h:RowsR .u64 a v w) (ha:OkA a):Calls Tryz.prog 201 #[v] w (DPost (decP a) w):=by
 obtain ⟨A,n,rfl⟩:=h.slice
 have hg0:=(Keep.refl NoB w).alloc (.cells #[.int .i64 0,.int .i64 0,.slice none 0 0,.slice none 0 0,.slice none 0 0] 114)
 have HN:=LH (heap_alloc_new w (.cells #[.int .i64 0,.int .i64 0,.slice none 0 0,.slice none 0 0,.slice none 0 0] 114))
 have HG:=LH hg0
 have H:=LH (h.grow hg0)
 have HA:=LH ha
 clear h ha hg0
 go_enter Tryz.func201,Tryz.ntmps201
 go_wp2_with fail
 refine (zQD a _ _ H.out HA.out).mono ?_
 rintro e w1 ⟨rfl,hg⟩
 replace HN:=LH (hg.heap HN.out)
 replace HG:=LH (HG.out.grow hg)
 replace H:=LH (H.out.grow hg)
 clear hg
 cases hf:fitsB (szs a) with
 | false =>
  have E:Hid (decP a=(tr0,1)):=LH (by unfold decP;rw [if_neg (by simp [hf])])
  clear hf
  obtain ⟨n0,n1,n2,n3,n4,nf⟩:=zA HN.out
  have hst:=LH (zZ (.int .i64 0) (.int .i64 0) (.slice none 0 0) (.slice none 0 0) (.slice none 0 0) HG.out (Nat.le_refl _) HN.out)
  go_wp2
  (try simp only [Exit.inBlock,Exit.then])
  obtain ⟨r0,r1,r2,r3,r4,rf⟩:=zA hst.out.1
  refine bodyPost_ret (v:=.tuple #[.agg #[.int .i64 0,.int .i64 0,.slice none 0 0,.slice none 0 0,.slice none 0 0],.int .u16 1]) ?_ rfl ?_
  ·rw [results_cell_tmp rfl];go_simp
  ·rw [E.out]
   exact ⟨none,0,none,0,none,0,rfl,hst.out.2,TrR.nil _ 0 0,tr0_b⟩
 | true =>
  have E:Hid (decP a=((nodeP (szs a) (wordA a) 32 0 0 0).1,(nodeP (szs a) (wordA a) 32 0 0 0).2.1)):=LH (by unfold decP;rw [if_pos hf])
  clear hf
  go_wp2_with fail
  refine (zRG A _ n w1).mono ?_
  rintro e w' ⟨rfl,rfl⟩
  have hS:=LH (zHI H.out HA.out)
  have hg2:=(Keep.refl NoB w1).alloc (.cells #[.iface 363 (.agg #[.slice A a.length n]),.int .i64 0] 342)
  have HD:Hid (Dec w1.heap.size (.iface 363 (.agg #[.slice A a.length n])) 0 _):=LH (heap_alloc_new w1 (.cells #[.iface 363 (.agg #[.slice A a.length n]),.int .i64 0] 342))
  have Hlt:=LH (gE HN.out).1
  replace HN:=LH (Grow.heap hg2 HN.out)
  have HG2:=LH hg2
  clear hg2
  go_wp2_with fail
  refine (zBH (zu HA.out) 32 (by omega) _ w1 w1.heap.size 0 0 0 _ hS.out HD.out (Nat.le_refl _) HG2.out (by omega) (by omega)).mono ?_
  rintro e w3 ⟨vw,vb,vk,rfl,hdec,hkeep,hfoot,htrb⟩
  obtain ⟨A1,c1,A2,c2,A3,c3,rfl,rfl,rfl⟩:=hfoot.now.parts
  generalize nodeP (szs a) (wordA a) 32 0 0 0=r at *
  have hlt:=Hlt.out
  have hNo:w.heap.size≠w1.heap.size:=by omega
  have HN3:=LH ((hkeep.block _ (gE HN.out).1 (fun e=>hNo e)).trans HN.out)
  have HG3:Hid (Grow w w3):=LH ((((HG.out.grow HG2.out).mono (fun _ h=>h.elim)).trans hkeep (fun i hi=>.inl hi):Keep (fun k=>k=w1.heap.size) w w3).new (fun i hi=>by omega))
  obtain ⟨n0,n1,n2,n3,n4,nf⟩:=zA HN3.out
  have hst:=LH (zZ (.int .i64 r.1.kind) (.int .i64 r.1.size) (.slice A1 r.1.ws.length c1) (.slice A2 r.1.bs.length c2) (.slice A3 r.1.kids.length c3) HG3.out (Nat.le_refl _) HN3.out)
  have HF:=LH (hfoot.keep (zb (N:=w.heap.size) (.int .i64 r.1.kind) (.int .i64 r.1.size) (.slice A1 r.1.ws.length c1) (.slice A2 r.1.bs.length c2) (.slice A3 r.1.kids.length c3)) (fun j hj e=>by have:=hj.1;simp at this;omega))
  have Htb:=LH htrb
  clear hdec hkeep hfoot htrb hlt hNo
  go_wp2
  (try simp only [Exit.inBlock,Exit.then])
  obtain ⟨r0,r1,r2,r3,r4,rf⟩:=zA hst.out.1
  refine bodyPost_ret (v:=.tuple #[.agg #[.int .i64 r.1.kind,.int .i64 r.1.size,.slice A1 r.1.ws.length c1,.slice A2 r.1.bs.length c2,.slice A3 r.1.kids.length c3],.int .u16 r.2.1]) ?_ rfl ?_
  ·rw [results_cell_tmp rfl];go_simp
  ·rw [E.out]
   exact ⟨A1,c1,A2,c2,A3,c3,rfl,hst.out.2,HF.out.now,Htb.out⟩
def checkP (a:List (List Int)):Int:=if (decP a).2=0 then (if rightB 32 (decP a).1=true then 0 else 23) else (decP a).2
def CPost (a:List (List Int)) (w:World) (e:Ending) (w':World):Prop :=
 ∃ (k s:Int) (A1 A2 A3:Option Addr) (n1 n2 n3 c1 c2 c3:Nat),e=.returned (.tuple #[.agg #[.int .i64 k,.int .i64 s,.slice A1 n1 c1,.slice A2 n2 c2,.slice A3 n3 c3],.int .u16 (checkP a)])∧Grow w w'
theorem zsE (a:List (List Int)) (v:Value) (w:World) (h:RowsR .u64 a v w) (ha:OkA a):Calls Tryz.prog 131 #[v] w (CPost a w):=by
 have hg0:=(Keep.refl NoB w).alloc (.cells #[.int .i64 0,.int .i64 0,.slice none 0 0,.slice none 0 0,.slice none 0 0] 114)
 have HN:=LH (heap_alloc_new w (.cells #[.int .i64 0,.int .i64 0,.slice none 0 0,.slice none 0 0,.slice none 0 0] 114))
 have HG:=LH hg0
 have H:=LH (zXF a v _ (h.grow hg0) ha)
 obtain ⟨A,n,rfl⟩:=h.slice
 clear h ha hg0
 have E0:Hid (checkP a=if (decP a).2=0 then (if rightB 32 (decP a).1=true then 0 else 23) else (decP a).2):=LH rfl
 go_enter Tryz.func131,Tryz.ntmps131
 go_wp2_with fail
 refine H.out.mono ?_
 rintro e w1 ⟨A1,c1,A2,c2,A3,c3,rfl,hg,htr,htb⟩
 generalize decP a=r at *
 obtain ⟨t,er⟩:=r
 have hg2:=(Keep.refl NoB w1).alloc (.cells #[.int .i64 t.kind,.int .i64 t.size,.slice A1 t.ws.length c1,.slice A2 t.bs.length c2,.slice A3 t.kids.length c3] 114)
 have HT:=LH (heap_alloc_new w1 (.cells #[.int .i64 t.kind,.int .i64 t.size,.slice A1 t.ws.length c1,.slice A2 t.bs.length c2,.slice A3 t.kids.length c3] 114))
 replace HN:=LH (Grow.heap hg2 (hg.heap HN.out))
 replace HG:=LH ((HG.out.grow hg).grow hg2)
 have HTR:=LH (And.intro (htr.grow hg2) htb)
 clear hg htr htb hg2 H
 obtain ⟨t0,t1,t2,t3,t4,tf⟩:=zA HT.out
 obtain ⟨n0,n1,n2,n3,n4,nf⟩:=zA HN.out
 by_cases he:er=0
 case neg =>
  have eb:(er != 0)=true:=by simp [he]
  have E:Hid (checkP a=er):=LH (E0.out.trans (if_neg he))
  have hst:=LH (zZ (.int .i64 0) (.int .i64 0) (.slice none 0 0) (.slice none 0 0) (.slice none 0 0) HG.out (Nat.le_refl _) HN.out)
  clear he
  go_wp2
  (try simp only [Exit.inBlock,Exit.then])
  obtain ⟨r0,r1,r2,r3,r4,rf⟩:=zA hst.out.1
  refine bodyPost_ret (v:=.tuple #[.agg #[.int .i64 0,.int .i64 0,.slice none 0 0,.slice none 0 0,.slice none 0 0],.int .u16 er]) ?_ rfl ?_
  ·rw [results_cell_tmp rfl];go_simp
  ·exact ⟨0,0,none,none,none,0,0,0,0,0,0,by rw [E.out],hst.out.2⟩
 subst he
 replace E0:=LH (E0.out.trans (if_pos (by simp)))
 go_wp2_with fail
 refine (zZG t _ _ _ _ HTR.out.1 HTR.out.2).mono ?_
 rintro e w3 ⟨rfl,hg⟩
 replace HN:=LH (hg.heap HN.out)
 replace HT:=LH (hg.heap HT.out)
 replace HG:=LH (HG.out.grow hg)
 clear hg t0 t1 t2 t3 t4 tf n0 n1 n2 n3 n4 nf
 obtain ⟨t0,t1,t2,t3,t4,tf⟩:=zA HT.out
 obtain ⟨n0,n1,n2,n3,n4,nf⟩:=zA HN.out
 cases hr:rightB 32 t with
 | false =>
  have E:Hid (checkP a=23):=LH (E0.out.trans (if_neg (by simp [hr])))
  have hst:=LH (zZ (.int .i64 0) (.int .i64 0) (.slice none 0 0) (.slice none 0 0) (.slice none 0 0) HG.out (Nat.le_refl _) HN.out)
  clear hr
  go_wp2
  (try simp only [Exit.inBlock,Exit.then])
  obtain ⟨r0,r1,r2,r3,r4,rf⟩:=zA hst.out.1
  refine bodyPost_ret (v:=.tuple #[.agg #[.int .i64 0,.int .i64 0,.slice none 0 0,.slice none 0 0,.slice none 0 0],.int .u16 23]) ?_ rfl ?_
  ·rw [results_cell_tmp rfl];go_simp
  ·exact ⟨0,0,none,none,none,0,0,0,0,0,0,by rw [E.out],hst.out.2⟩
 | true =>
  have E:Hid (checkP a=0):=LH (E0.out.trans (if_pos hr))
  have hst:=LH (zZ (.int .i64 t.kind) (.int .i64 t.size) (.slice A1 t.ws.length c1) (.slice A2 t.bs.length c2) (.slice A3 t.kids.length c3) HG.out (Nat.le_refl _) HN.out)
  clear hr
  go_wp2
  (try simp only [Exit.inBlock,Exit.then])
  obtain ⟨r0,r1,r2,r3,r4,rf⟩:=zA hst.out.1
  refine bodyPost_ret (v:=.tuple #[.agg #[.int .i64 t.kind,.int .i64 t.size,.slice A1 t.ws.length c1,.slice A2 t.bs.length c2,.slice A3 t.kids.length c3],.int .u16 0]) ?_ rfl ?_
  ·rw [results_cell_tmp rfl];go_simp
  ·exact ⟨_,_,A1,A2,A3,_,_,_,c1,c2,c3,by rw [E.out],hst.out.2⟩
theorem zaG (a:List (List Int)) (v:Value) (w:World) (h:RowsR .u64 a v w) (ha:OkA a):Calls Tryz.prog 60 #[v] w fun e w'=>e=.returned (.int .u16 (checkP a))∧Grow w w':=by
 have H:=LH (zsE a v w h ha)
 obtain ⟨A,n,rfl⟩:=h.slice
 clear h ha
 go_enter Tryz.func60,Tryz.ntmps60
 go_wp2_with fail
 refine H.out.mono ?_
 rintro e w1 ⟨k,s,A1,A2,A3,n1,n2,n3,c1,c2,c3,rfl,hg⟩
 have Hg:=LH (hg.alloc (.cells #[.int .i64 k,.int .i64 s,.slice A1 n1 c1,.slice A2 n2 c2,.slice A3 n3 c3] 114))
 clear hg H
 go_wp2
 go_ret
 exact ⟨rfl,Hg.out⟩
end Go.Proofs.YtfkcpaahdlkcdaaGreat
namespace Go.Proofs.YtfkcpaahdlkcdaaGreat
open Go.RowKit Go.Shelf
attribute [local go_sem] Oper.semAt_some
abbrev U64:={ x:Int // 0≤x∧x≤18446744073709551615 }
def u64z:U64:=⟨0,by omega,by omega⟩
def upto {α:Type} (f:Nat→α) (k:Nat):List α:=(List.range k).map f
theorem zWA {α:Type} (f:Nat→α) (k:Nat):upto f (k+1)=upto f k++[f k]:=by simp [upto,List.range_succ]
theorem zhA {α:Type} (f:Nat→α) (k:Nat):(upto f k).length=k:=by simp [upto]
def pos (a:List (List Int)) (i j:Nat):Nat:=(a.take i).flatten.length+j
theorem zXJ {a:List (List Int)} {i:Nat} (h:i<a.length):pos a i a[i].length=pos a (i+1) 0:=by
 unfold pos
 rw [List.take_succ_eq_append_getElem h,List.flatten_append,List.length_append]
 simp only [List.flatten_cons,List.flatten_nil,List.append_nil,Nat.add_zero]
theorem zjK (a:List (List Int)):pos a a.length 0=a.flatten.length:=by simp [pos]
theorem zID {a:List (List Int)} {i j:Nat} (h:i<a.length) (hj:j<a[i].length):a.flatten[pos a i j]? = some a[i][j]:=by
 have e:a.flatten=(a.take i).flatten++(a[i]++(a.drop (i+1)).flatten):=by
  rw [← List.flatten_cons,← List.drop_eq_getElem_cons h,← List.flatten_append,List.take_append_drop]
 unfold pos
 rw [e,List.getElem?_append_right (by omega),show (a.take i).flatten.length+j-(a.take i).flatten.length=j from by omega,List.getElem?_append_left hj,List.getElem?_eq_getElem hj]
def wat (l:List Int) (k:Nat):U64:=if h:0≤l[k]?.getD 0∧l[k]?.getD 0≤18446744073709551615 then ⟨l[k]?.getD 0,h⟩ else u64z
theorem zkK {a:List (List Int)} (ho:OkA a) {i j:Nat} (h:i<a.length) (hj:j<a[i].length):(wat a.flatten (pos a i j)).1=a[i][j]:=by
 have hb:=ho.nums _ (List.getElem_mem h) _ (List.getElem_mem hj)
 have he:a.flatten[pos a i j]?.getD 0=a[i][j]:=by rw [zID h hj];rfl
 unfold wat
 split
 ·exact he
 ·rename_i hc
  rw [he] at hc
  exact absurd hb hc
theorem zQI {a:List (List Int)} (ho:OkA a) (hf:a.flatten.length≤1000000) {i j:Nat} (h:i<a.length) (hj:j<a[i].length):pos a i j<1000000:=by
 have:=(List.getElem?_eq_some_iff.1 (zID h hj)).1
 omega
theorem zRI (F:Fence) (n:Nat) (h7:F.fn 247) (hro:F.round=none) (hn:1≤n) (l Bs:Nat) (a:List (List Int)) (ho:OkA a) (hfl:a.flatten.length≤1000000) (A:Option Addr) (c:Nat) (w0:World) (hR:RowsR .u64 a (.slice A a.length c) w0) (J Jx:List (Nat×U64)→World→Prop)
    (hY:∀ pre x W,J pre W→pre.length<a.flatten.length→YieldAt F (n-1) Tryz.prog l #[.int .i64 (x.1:Int),.int .u64 x.2.1] W fun e W' =>
     (e=.returned (.bool true)∧J (pre++[x]) W'∧Below w0.heap.size W W')∨(e=.returned (.bool false)∧Jx (pre++[x]) W'))
    (W:World) (hW:Below w0.heap.size w0 W) (hBs:W.cell? ⟨Bs,0,none⟩=some (.slice A a.length c)) (h0:J [] W) :
    CallsIn F n Tryz.prog 247 #[.func (.yield l) #[] #[],.pointer (some ⟨Bs,0,none⟩)] W fun e W'=>(∃ v,e=.returned v) ∧
     ((∃ ys,ys=upto (fun k=>(k,wat a.flatten k)) a.flatten.length∧J ys W')∨(∃ pre,(∃ k,k≤a.flatten.length∧pre=upto (fun k=>(k,wat a.flatten k)) k)∧Jx pre W')):=by
 refine callsIn_of_wp Tryz.func247 rfl h7 ?_ hro
 simp only [Tryz.ntmps247,List.size_toArray,List.length_cons,List.length_nil,Nat.reduceAdd,Nat.reduceSub,Array.replicate_succ,Array.replicate_zero,List.push_toArray,List.append_toArray,List.nil_append,List.cons_append]
 gi_wp2
 gi_loopw [3,10] (fun p q wr=>∃ i:Nat,i≤a.length∧q=.int .i64 i∧p=.int .i64 (pos a i 0)∧Hid (J (upto (fun k=>(k,wat a.flatten k)) (pos a i 0)) wr∧Below w0.heap.size w0 wr)) (fun _ q _=>a.length-(intOf q).toNat)
 case atStart=>exact ⟨0,Nat.zero_le _,rfl,by simp [pos],h0,hW⟩
 case round =>
  obtain ⟨i,hi,rfl,rfl,HJ⟩:=hrel
  by_cases hlt:i<a.length
  ·obtain ⟨ad,A',c',rfl,q0,hs⟩:=(hR.grow (Keep.of_below HJ.out.2)).at_ i hlt
   have hlt':(i:Int)<a.length:=by omega
   have hw:IntKind.i64.wrap ((i:Int)+1)=(i:Int)+1:=IntWalk.i64_in _ (by have:=ho.segs;omega)
   have hsl:∀ u,Below w0.heap.size w0 u→SliceR 1 (.slice A' a[i].length c') a[i].length (a[i].map (Value.int .u64)) u:=fun u hu=>by
    obtain ⟨ad4,A4,c4,e4,q4,hs4⟩:=hR.at_ i hlt
    injection e4 with e4
    subst e4
    have:=(Keep.of_below HJ.out.2).cell q4 (fun h=>h)
    rw [q0] at this
    injection this with this
    injection this with x1 x2 x3
    subst x1
    subst x3
    exact hs4.grow (Keep.of_below hu)
   have hseg:=ho.words _ (List.getElem_mem hlt)
   have Hpn:=LH (zXJ hlt)
   have Hsl:=LH hsl
   clear hs hsl
   gi_wp2
   obtain ⟨wo,rfl⟩:∃ wo:World,wo=wr:=⟨_,rfl⟩
   clear q0
   gi_loopw [3,16] (fun p q wr=>∃ j:Nat,j≤a[i].length∧q=.int .i64 j∧p=.int .i64 (pos a i j)∧Hid (J (upto (fun k=>(k,wat a.flatten k)) (pos a i j)) wr∧Below w0.heap.size w0 wr)) (fun _ q _=>a[i].length-(intOf q).toNat)
   case atStart=>exact ⟨0,Nat.zero_le _,rfl,rfl,HJ⟩
   case round =>
    clear HJ
    obtain ⟨j,hj,rfl,rfl,HJ⟩:=hrel
    by_cases hjl:j<a[i].length
    ·have hjl':(j:Int)<a[i].length:=by omega
     have hwj:IntKind.i64.wrap ((j:Int)+1)=(j:Int)+1:=IntWalk.i64_in _ (by omega)
     have hwp:IntKind.i64.wrap ((pos a i j:Nat)+1:Int)=(pos a i j:Nat)+1:=IntWalk.i64_in _ (by have:=zQI ho hfl hlt hjl;omega)
     have hs2:=Hsl.out wr HJ.out.2
     obtain ⟨ad2,rfl,q1⟩:=SliceR.int_at hs2 j hjl
     have hlp:(upto (fun k=>(k,wat a.flatten k)) (pos a i j)).length<a.flatten.length:=by
      rw [zhA]
      have:=zID hlt hjl
      exact (List.getElem?_eq_some_iff.1 this).1
     obtain ⟨fn,tmps,assign,body,hy,hRR⟩:=hY _ (pos a i j,wat a.flatten (pos a i j)) wr HJ.out.1 hlp
     dsimp only at hy
     rw [zkK ho hlt hjl] at hy
     have HRR:=LH hRR
     clear hs2 hlp hRR
     gi_wp2
     refine HRR.out.mono ?_
     rintro e W3 (⟨rfl,hJ3,hk3⟩ | ⟨rfl,hJx3⟩)
     ·have HJ3:Hid (J (upto (fun k=>(k,wat a.flatten k)) (pos a i (j+1))) W3∧Below w0.heap.size w0 W3):=LH ⟨by rw [show pos a i (j+1)=pos a i j+1 from rfl,zWA];exact hJ3,HJ.out.2.trans hk3⟩
      clear hJ3 hk3
      gi_wp2
      go_roundw
      case rel=>exact ⟨j+1,by omega,by go_num,by rw [show ((pos a i (j+1):Nat):Int)=(pos a i j:Nat)+1 from by unfold pos;omega],HJ3⟩
      case measure=>simp [intOf];omega
     ·have HX:=LH hJx3
      clear hJx3
      gi_wp2
      refine bodyPost_ret (results_none rfl _ _ _) rfl ?_
      refine ⟨⟨_,rfl⟩,.inr ⟨_,⟨pos a i j+1,?_,(zWA _ _).symm⟩,HX.out⟩⟩
      have:=zID hlt hjl
      exact (List.getElem?_eq_some_iff.1 this).1
    ·obtain rfl:j=a[i].length:=by omega
     have HJ3:=HJ
     rw [Hpn.out] at HJ3
     have hjl':¬ ((a[i].length:Int)<a[i].length):=by omega
     gi_wp2
     go_roundw
     case rel=>exact ⟨i+1,by omega,by go_num,by rw [Hpn.out],HJ3⟩
     case measure=>simp [intOf];omega
  ·obtain rfl:i=a.length:=by omega
   have hlt':¬ ((a.length:Int)<a.length):=by omega
   have hJ:=HJ.out
   rw [zjK] at hJ
   have HJ2:=LH hJ.1
   clear hJ
   gi_wp2
   go_end0
   exact ⟨⟨_,rfl⟩,.inl (by simpa using HJ2.out)⟩
theorem zbG (A:Option Addr) (n c:Nat) (w:World):Calls Tryz.prog 206 #[.slice A n c] w fun e w'=>e=.returned (.func (.func 247) #[] #[.pointer (some ⟨w.heap.size,0,none⟩)])∧w'=w.alloc (.cells #[.slice A n c] 29):=by
 go_enter Tryz.func206,Tryz.ntmps206
 go_wp2
 go_ret
 exact ⟨rfl,rfl⟩
theorem zcG (F:Fence) (n:Nat) (h7:F.fn 247) (hro:F.round=none) (hn:1≤n) (a:List (List Int)) (ho:OkA a) (hfl:a.flatten.length≤1000000) (A:Option Addr) (c:Nat) (w0:World) (hR:RowsR .u64 a (.slice A a.length c) w0) (Bs:Nat) (w:World) (hw:Below w0.heap.size w0 w) (hlt:Bs<w.heap.size)
    (hBs:w.cell? ⟨Bs,0,none⟩=some (.slice A a.length c)) :
    SeqStopsK F n Tryz.prog 247 #[.pointer (some ⟨Bs,0,none⟩)] (fun x:Nat×U64=>#[Value.int .i64 (x.1:Int),Value.int .u64 x.2.1]) (Below w0.heap.size) (fun ys=>ys=upto (fun k=>(k,wat a.flatten k)) a.flatten.length)
     (fun pre=>∃ k,k≤a.flatten.length∧pre=upto (fun k=>(k,wat a.flatten k)) k) a.flatten.length w:=fun l J Jx W hW _ _ hY h0 =>
 zRI F n h7 hro hn l Bs a ho hfl A c w0 hR J Jx hY W (hw.trans (hW.mono hw.size)) ((hW.cell (p:=⟨Bs,0,none⟩) hlt).trans hBs) h0
end Go.Proofs.YtfkcpaahdlkcdaaGreat
namespace Go.Proofs.YtfkcpaahdlkcdaaGreat
open Go.RowKit
section
variable {P:Program} {ops:Array Oper} {Q:Exit→Act→World→Prop} {md:Region.Mode} {ds:List Nat} {l n:Nat}
theorem zHC {ops:Array Oper} {i:Nat} {o:Oper} {a:Act} {w w':World} {K:Act→World→Prop} {N:Option Tmp} (v:Value) (a':Act) (hl:ops.toList[i]? = some o) (hN:o.dst=N) (hg:o.guard=none) (hd:∀ c,o.op≠.defer c)
    (hy:(execOp a.eval o).run P w=.ok (.value v) w') (ha':a.put N v=a') (hK:K a' w'):wpOpIn (Fence.wide.inRound l) n P ops Q i K a w:=by
 have hi:ops[i]? = some o:=by simpa using hl
 subst hN
 subst ha'
 unfold wpOpIn
 rw [hi]
 simp only
 rw [if_pos (by simp [Region.wanted,hg])]
 refine ⟨fun _ _=>trivial,?_⟩
 rw [Oper.semAt_plain _ _ _ hd,hy]
 exact hK
theorem zYF {ops:Array Oper} {i:Nat} {o:Oper} {a:Act} {w w':World} {K:Act→World→Prop} (hl:ops.toList[i]? = some o) (hN:o.dst=none) (hg:o.guard=none) (hd:∀ c,o.op≠.defer c)
    (hy:(execOp a.eval o).run P w=.ok .skip w') (hK:K a w'):wpOpIn (Fence.wide.inRound l) n P ops Q i K a w:=by
 have hi:ops[i]? = some o:=by simpa using hl
 unfold wpOpIn
 rw [hi]
 simp only
 rw [if_pos (by simp [Region.wanted,hg])]
 refine ⟨fun _ _=>trivial,?_⟩
 rw [Oper.semAt_plain _ _ _ hd,hy]
 rw [Oper.uponIn_skip,hN]
 exact hK
theorem zZF {ops:Array Oper} {i:Nat} {o:Oper} {a:Act} {w:World} {K:Act→World→Prop} {N:Option Tmp} {f:FuncId} {args:Array Value} (hl:ops.toList[i]? = some o) (hN:o.dst=N) (hg:o.guard=none) (hd:∀ c,o.op≠.defer c)
    (hy:(execOp a.eval o).run P w=.ok (.enter f args) w) (h:Calls P f args w fun e w'=>∃ v,e=.returned v∧K (a.put N v) w'):wpOpIn (Fence.wide.inRound l) n P ops Q i K a w:=by
 have hi:ops[i]? = some o:=by simpa using hl
 subst hN
 unfold wpOpIn
 rw [hi]
 simp only
 rw [if_pos (by simp [Region.wanted,hg])]
 refine ⟨fun _ _=>trivial,?_⟩
 rw [Oper.semAt_plain _ _ _ hd,hy,Oper.uponIn_enter]
 refine ⟨(fun hh=>by cases hh),CallsIn.inRound l (callsIn_wide.2 (h.mono ?_))⟩
 rintro e w' ⟨v,rfl,hk⟩
 exact hk
theorem zaD {ops:Array Oper} {i:Nat} {o:Oper} {a:Act} {w:World} {K:Act→World→Prop} {N:Option Tmp} (hl:ops.toList[i]? = some o) (hN:o.dst=N) (hgd:o.guard=none) (s x:Operand) (t tx:TypeId)
    (ho:o.op=.call { callee:=.builtin .append,args:=#[s,x],argTypes:=#[t,tx] })
    (base:Nat) (e:TypeId) (z:Value) (size bytes:Nat) (ht:P.underlying t=some (.slice e)) (hinfo:(P.info? e).map (fun i=>(i.zero,i.size,i.bytes))=some (some z,size,bytes))
    (hzs:z.cells.size=size)
    (v:Value) (m:Nat) (xs:List Value) (hv:a.eval s=v)
    (xv:Value) (k:Nat) (news:List Value) (hx:a.eval x=xv)
    (h:∀ v' w',Apped base e size v v' (m+k) (xs++news) w w' (v=.slice none 0 0∧k=0)→K (a.put N v') w')
    (hown:w.ownsRow base e size v m xs) (hs:Src P size tx xv k news w)
    (h63:m+k≤maxLen) (hbytes:(m+k)*bytes≤140737488355328) (hbase:base≤w.heap.size):wpOpIn (Fence.wide.inRound l) n P ops Q i K a w:=by
 obtain ⟨i0,hi,h1,h2,h3⟩:=info_parts hinfo
 obtain ⟨v',w',hr,g1,g2,g3,g4⟩:=zwG (P:=P) w base t tx o.type e i0 z size bytes ht hi h1 h2 h3 hzs v m xs hown xv k news hs h63 hbytes hbase
 refine zHC v' _ hl hN hgd (by rw [ho];intro c hc;cases hc) ?_ rfl (h v' w' ⟨g1,g2,g3,g4⟩)
 unfold execOp
 simp only [ho,resolve,invoke,builtin,Sem.run_bind,Sem.run_pure,Result.andThen_ok,List.map_toArray,List.map_cons,List.map_nil,hv,hx,hr]
end
end Go.Proofs.YtfkcpaahdlkcdaaGreat
namespace Go.Proofs.YtfkcpaahdlkcdaaGreat
open Go.RowKit Go.Shelf
attribute [local go_sem] Oper.semAt_some
def bytesW (pre:List (Nat×U64)):List Int:=pre.flatMap (fun x=>putB x.2.1 8)
theorem zdG (pre:List (Nat×U64)) (x:Nat×U64):u8s (bytesW (pre++[x]))=u8s (bytesW pre)++u8s (putB x.2.1 8):=by simp [bytesW,u8s]
theorem zz (pre:List (Nat×U64)):(bytesW pre).length=pre.length*8:=by
 induction pre with
 | nil=>rfl
 | cons x r ih=>simp [bytesW,zX] at ih ⊢;omega
theorem zjC {W w1:World} {n₀ B:Nat} {t e:TypeId} {size:Nat} {v v':Value} {k m:Nat} {xs ys:List Value}
    (hv:Boxed W B t v) (hte:t≠e) (hrow:W.ownsRow n₀ e size v k xs) (hn₀:n₀≤W.heap.size) (hB:n₀≤B) (hown':w1.ownsRow n₀ e size v' m ys) (hgrow:W.grownBy w1 v.ownBlock) :
    Boxed w1 B t v∧Boxed (w1.setCell ⟨B,0,none⟩ v') B t v'∧(w1.setCell ⟨B,0,none⟩ v').ownsRow n₀ e size v' m ys∧KeepsOthers W (w1.setCell ⟨B,0,none⟩ v')∧Below n₀ W (w1.setCell ⟨B,0,none⟩ v'):=by
 have hv1:Boxed w1 B t v:=hv.kept hgrow (hv.not_row hte hrow)
 refine ⟨hv1,hv1.set v',hown'.kept (grownBy_setCell' w1 B v') (.inr (hv1.not_row hte hown').symm),?_,?_⟩
 ·refine (KeepsOthers.of_grownBy hgrow fun j o ej hj=>?_).trans (KeepsOthers.setCell _ _ _)
  rcases hrow.2 with ⟨rfl,_⟩ | ⟨g,cap,cur,rfl,_,hgb,_⟩
  ·simp [Value.ownBlock] at ej
  ·obtain rfl:g=j:=by simpa [Value.ownBlock] using ej
   rw [hgb] at hj;cases hj;rfl
 ·refine ((Below.refl n₀ W).grown hgrow hn₀ fun j ej=>?_).setCell (p:=⟨B,0,none⟩) hB v'
  exact (hrow.lt j ej).1
theorem zaF (a:List (List Int)) (ho:OkA a) (hfl:a.flatten.length≤1000000) (A:Option Addr) (c:Nat) (w:World) (hR:RowsR .u64 a (.slice A a.length c) w) :
    Calls Tryz.prog 138 #[.slice A a.length c] w fun e w'=>∃ v,e=.returned v∧Grow w w'∧w'.ownsRow w.heap.size 5 1 v (bytesW (upto (fun k=>(k,wat a.flatten k)) a.flatten.length)).length (u8s (bytesW (upto (fun k=>(k,wat a.flatten k)) a.flatten.length))):=by
 refine (callsIn_wide (n:=3)).1 ?_
 refine callsIn_of_wp_marks Tryz.func138 rfl trivial ?_ rfl
 simp only [Tryz.ntmps138,List.size_toArray,List.length_cons,List.length_nil,Nat.reduceAdd,Nat.reduceSub,Array.replicate_succ,Array.replicate_zero,List.push_toArray,List.append_toArray,List.nil_append,List.cons_append]
 gi_wp2_with (refine ⟨trivial,?_⟩;gi_at_call 206;refine (callsIn_wide.2 (zbG A a.length c _)).mono ?_;rintro e w' ⟨rfl,rfl⟩)
 have bO:=Boxed.new w 23 (.slice none 0 0)
 have bN:=Boxed.new (w.alloc (.cells #[.slice none 0 0] 23)) 29 (.slice A a.length c)
 rw [World.size_alloc] at bN
 have hB0:Below w.heap.size w ((w.alloc (.cells #[.slice none 0 0] 23)).alloc (.cells #[.slice A a.length c] 29)):=((Below.refl _ w).alloc (Nat.le_refl _) _).alloc (by simp) _
 refine wpIn_rangeFunc_ownG rfl (show 1≤3 by omega) (gf:=247) (lb:=#[.pointer (some ⟨w.heap.size+1,0,none⟩)]) rfl trivial (enters_of Tryz.func247 (by kernel_rfl) rfl)
  (zcG Fence.wide _ trivial rfl (by omega) a ho hfl A c w hR (w.heap.size+1) _ hB0 (by simp) bN.cell) belowK_t (belowK_b (by simp;omega)) (Below.refl _ _) (fun _=>rfl)
  (fun pre W=>(∃ v,Boxed W w.heap.size 23 v∧W.ownsRow w.heap.size 5 1 v (bytesW pre).length (u8s (bytesW pre))∧True)∧Below w.heap.size w W)
  (fun _ _ _=>False)
  (OwnFrom.and (Own.from (holdsRow_own w.heap.size w.heap.size 23 5 1 (fun pre=>(bytesW pre).length) (fun pre=>u8s (bytesW pre)) (fun pre v=>True)) _) (ownFrom_below (Nat.le_refl _) (by simp;omega)))
  (fun _ _ _ _ _ hs _ _=>hs)
  ⟨⟨_,bO.alloc _,World.ownsRow_nil _ _ _ _,trivial⟩,hB0⟩
  (fun x=>{ tmps:=#[.slice A a.length c,undef,.slice none 0 0,.pointer (some ⟨w.heap.size,0,none⟩),undef,.int .u64 x.2.1,.slice A a.length c,.func (.func 247) #[] #[.pointer (some ⟨w.heap.size+1,0,none⟩)],.int .i64 x.1,.int .u64 x.2.1,undef,undef,undef,undef,undef],defers:=[] }) ?assign ?body ?done ?stop
 case assign =>
  intro l x W K hK
  gi_wp2
  exact hK
 case body =>
  rintro l pre x W ⟨⟨v,hv,hrow,-⟩,hB⟩ hlt
  have hc:=hv.cell
  have hf:=hv.frozen
  have hmx:Tryz.prog.follows .mixedOrders=true:=by kernel_rfl
  have hd:1≤3-1-1:=by omega
  gi_wp2
  obtain ⟨Av,cv,rfl,-⟩:=zJ hrow
  have hxb:=x.2.2
  have HB:=LH hB
  have Hrow:=LH hrow
  have Hv:=LH hv
  have hln:=zz pre
  have hsn:=LH (zdG pre x)
  clear hB hrow hv
  have hln2:(bytesW pre).length≤8000000:=by omega
  have Hln:=LH hln
  clear hln
  refine wpIn_region_any hmx ?_
  refine wpAnyIn_all (rs:=[0,1]) (by kernel_rfl) (by simp) ?_
  intro i hi
  simp only [List.mem_cons,List.not_mem_nil,or_false] at hi
  rcases hi with rfl | rfl
  ·refine zHC _ _ rfl rfl rfl (by intro c h;cases h) (by go_simp;first | with_reducible rfl | (constructor <;> with_reducible rfl)) (by simp only [Act.put,pB,pC,pD];rfl) ?_
   refine wpAnyIn_all (rs:=[1]) (by kernel_rfl) (by simp) ?_
   intro i hi
   simp only [List.mem_cons,List.not_mem_nil,or_false] at hi
   subst hi
   refine zHC _ _ rfl rfl rfl (by intro c h;cases h) (by go_simp;first | with_reducible rfl | (constructor <;> with_reducible rfl)) (by simp only [Act.put,pB,pC,pD];rfl) ?_
   refine wpAnyIn_all (rs:=[2]) (by kernel_rfl) (by simp) ?_
   intro i hi
   simp only [List.mem_cons,List.not_mem_nil,or_false] at hi
   subst hi
   refine zZF rfl rfl rfl (by intro c h;cases h) (f:=137) (args:=#[.int .u64 x.2.1,.int .i64 8]) (by go_simp) ?_
   refine (zJB x.2.1 8 _ hxb.1 hxb.2 (by omega) (by omega)).mono ?_
   rintro e w5 ⟨A5,c5,rfl,hg,hoo⟩
   rw [zX] at hoo ⊢
   refine ⟨_,rfl,?_⟩
   have hc5:=(Grow.heap hg (show W.drew.heap[w.heap.size]? = _ from Hv.out))
   have hcc:w5.cell? ⟨w.heap.size,0,none⟩=some (.slice Av (bytesW pre).length cv):=World.news_of_block hc5 0 _ rfl
   have Hoo:=LH hoo
   have Hg:=LH hg
   clear hoo hg
   simp only [Act.put,pB,pC,pD]
   refine wpAnyIn_all (rs:=[3]) (by kernel_rfl) (by simp) ?_
   intro i hi
   simp only [List.mem_cons,List.not_mem_nil,or_false] at hi
   subst hi
   refine zaD rfl rfl rfl (Operand.tmp 10) (Operand.tmp 12) 23 23 rfl w.heap.size 5 (.int .u8 0) 1 1 zW zy rfl (.slice Av (bytesW pre).length cv) (bytesW pre).length (u8s (bytesW pre)) rfl (.slice A5 8 c5) 8 (u8s (putB x.2.1 8)) rfl ?_ (zE Hrow.out (show Grow W w5 from (Keep.refl NoB W).drew.grow Hg.out) (fun _ _ h=>h)) ((SliceR.of_own Hoo.out).src zW (zHB _)) (by simp only [maxLen];omega) (by omega) (by have:=Hg.out.size;have:=HB.out.size;simp at *;omega)
   intro v6 w6 hap
   have hap1:=zjC hc5 (by decide) (zE Hrow.out (show Grow W w5 from (Keep.refl NoB W).drew.grow Hg.out) (fun _ _ h=>h)) (by have:=Hg.out.size;have:=HB.out.size;simp at *;omega) (Nat.le_refl _) hap.own hap.grew
   obtain ⟨hv1,hv2,hr2,hk2,hb2⟩:=hap1
   obtain ⟨A6,c6,rfl,_⟩:=zJ hap.own
   have hc6:=hv1.cell
   have hf6:=hv1.frozen
   simp only [Act.put,pB,pC,pD]
   refine wpAnyIn_all (rs:=[4]) (by kernel_rfl) (by simp) ?_
   intro i hi
   simp only [List.mem_cons,List.not_mem_nil,or_false] at hi
   subst hi
   refine zYF rfl rfl rfl (by intro c h;cases h) (by go_simp;with_reducible rfl) ?_
   refine wpAnyIn_done (by kernel_rfl) ?_ _
   have hkW:KeepsOthers W w5:=⟨Hg.out.size,fun k o hk _=>Grow.heap ((Keep.refl NoB W).drew.grow Hg.out) hk⟩
   have hbW:Below w.heap.size W w5:=((Keep.refl NoB W).drew.grow Hg.out).below w.heap.size HB.out.size (fun _ h=>h.elim)
   have ho6:(w6.setCell ⟨w.heap.size,0,none⟩ (.slice A6 ((bytesW pre).length+8) c6)).ownsRow w.heap.size 5 1 (.slice A6 ((bytesW pre).length+8) c6) (bytesW (pre++[x])).length (u8s (bytesW (pre++[x]))):=by
    rw [show (bytesW (pre++[x])).length=(bytesW pre).length+8 from by rw [zz,zz,List.length_append,List.length_singleton];omega,hsn.out]
    exact hr2
   exact ⟨(hkW.trans hk2).from _,hbW.trans hb2,⟨_,hv2,ho6,trivial⟩,HB.out.trans (hbW.trans hb2)⟩
  ·refine zHC _ _ rfl rfl rfl (by intro c h;cases h) (by go_simp;first | with_reducible rfl | (constructor <;> with_reducible rfl)) (by simp only [Act.put,pB,pC,pD];rfl) ?_
   refine wpAnyIn_all (rs:=[0,2]) (by kernel_rfl) (by simp) ?_
   intro i hi
   simp only [List.mem_cons,List.not_mem_nil,or_false] at hi
   rcases hi with rfl | rfl
   ·refine zHC _ _ rfl rfl rfl (by intro c h;cases h) (by go_simp;first | with_reducible rfl | (constructor <;> with_reducible rfl)) (by simp only [Act.put,pB,pC,pD];rfl) ?_
    refine wpAnyIn_all (rs:=[2]) (by kernel_rfl) (by simp) ?_
    intro i hi
    simp only [List.mem_cons,List.not_mem_nil,or_false] at hi
    subst hi
    refine zZF rfl rfl rfl (by intro c h;cases h) (f:=137) (args:=#[.int .u64 x.2.1,.int .i64 8]) (by go_simp) ?_
    refine (zJB x.2.1 8 _ hxb.1 hxb.2 (by omega) (by omega)).mono ?_
    rintro e w5 ⟨A5,c5,rfl,hg,hoo⟩
    rw [zX] at hoo ⊢
    refine ⟨_,rfl,?_⟩
    have hc5:=(Grow.heap hg (show W.drew.heap[w.heap.size]? = _ from Hv.out))
    have hcc:w5.cell? ⟨w.heap.size,0,none⟩=some (.slice Av (bytesW pre).length cv):=World.news_of_block hc5 0 _ rfl
    have Hoo:=LH hoo
    have Hg:=LH hg
    clear hoo hg
    simp only [Act.put,pB,pC,pD]
    refine wpAnyIn_all (rs:=[3]) (by kernel_rfl) (by simp) ?_
    intro i hi
    simp only [List.mem_cons,List.not_mem_nil,or_false] at hi
    subst hi
    refine zaD rfl rfl rfl (Operand.tmp 10) (Operand.tmp 12) 23 23 rfl w.heap.size 5 (.int .u8 0) 1 1 zW zy rfl (.slice Av (bytesW pre).length cv) (bytesW pre).length (u8s (bytesW pre)) rfl (.slice A5 8 c5) 8 (u8s (putB x.2.1 8)) rfl ?_ (zE Hrow.out (show Grow W w5 from (Keep.refl NoB W).drew.grow Hg.out) (fun _ _ h=>h)) ((SliceR.of_own Hoo.out).src zW (zHB _)) (by simp only [maxLen];omega) (by omega) (by have:=Hg.out.size;have:=HB.out.size;simp at *;omega)
    intro v6 w6 hap
    have hap1:=zjC hc5 (by decide) (zE Hrow.out (show Grow W w5 from (Keep.refl NoB W).drew.grow Hg.out) (fun _ _ h=>h)) (by have:=Hg.out.size;have:=HB.out.size;simp at *;omega) (Nat.le_refl _) hap.own hap.grew
    obtain ⟨hv1,hv2,hr2,hk2,hb2⟩:=hap1
    obtain ⟨A6,c6,rfl,_⟩:=zJ hap.own
    have hc6:=hv1.cell
    have hf6:=hv1.frozen
    simp only [Act.put,pB,pC,pD]
    refine wpAnyIn_all (rs:=[4]) (by kernel_rfl) (by simp) ?_
    intro i hi
    simp only [List.mem_cons,List.not_mem_nil,or_false] at hi
    subst hi
    refine zYF rfl rfl rfl (by intro c h;cases h) (by go_simp;with_reducible rfl) ?_
    refine wpAnyIn_done (by kernel_rfl) ?_ _
    have hkW:KeepsOthers W w5:=⟨Hg.out.size,fun k o hk _=>Grow.heap ((Keep.refl NoB W).drew.grow Hg.out) hk⟩
    have hbW:Below w.heap.size W w5:=((Keep.refl NoB W).drew.grow Hg.out).below w.heap.size HB.out.size (fun _ h=>h.elim)
    have ho6:(w6.setCell ⟨w.heap.size,0,none⟩ (.slice A6 ((bytesW pre).length+8) c6)).ownsRow w.heap.size 5 1 (.slice A6 ((bytesW pre).length+8) c6) (bytesW (pre++[x])).length (u8s (bytesW (pre++[x]))):=by
     rw [show (bytesW (pre++[x])).length=(bytesW pre).length+8 from by rw [zz,zz,List.length_append,List.length_singleton];omega,hsn.out]
     exact hr2
    exact ⟨(hkW.trans hk2).from _,hbW.trans hb2,⟨_,hv2,ho6,trivial⟩,HB.out.trans (hbW.trans hb2)⟩
   ·refine zZF rfl rfl rfl (by intro c h;cases h) (f:=137) (args:=#[.int .u64 x.2.1,.int .i64 8]) (by go_simp) ?_
    refine (zJB x.2.1 8 _ hxb.1 hxb.2 (by omega) (by omega)).mono ?_
    rintro e w5 ⟨A5,c5,rfl,hg,hoo⟩
    rw [zX] at hoo ⊢
    refine ⟨_,rfl,?_⟩
    have hc5:=(Grow.heap hg (show W.drew.heap[w.heap.size]? = _ from Hv.out))
    have hcc:w5.cell? ⟨w.heap.size,0,none⟩=some (.slice Av (bytesW pre).length cv):=World.news_of_block hc5 0 _ rfl
    have Hoo:=LH hoo
    have Hg:=LH hg
    clear hoo hg
    simp only [Act.put,pB,pC,pD]
    refine wpAnyIn_all (rs:=[0]) (by kernel_rfl) (by simp) ?_
    intro i hi
    simp only [List.mem_cons,List.not_mem_nil,or_false] at hi
    subst hi
    refine zHC _ _ rfl rfl rfl (by intro c h;cases h) (by go_simp;first | with_reducible rfl | (constructor <;> with_reducible rfl)) (by simp only [Act.put,pB,pC,pD];rfl) ?_
    refine wpAnyIn_all (rs:=[3]) (by kernel_rfl) (by simp) ?_
    intro i hi
    simp only [List.mem_cons,List.not_mem_nil,or_false] at hi
    subst hi
    refine zaD rfl rfl rfl (Operand.tmp 10) (Operand.tmp 12) 23 23 rfl w.heap.size 5 (.int .u8 0) 1 1 zW zy rfl (.slice Av (bytesW pre).length cv) (bytesW pre).length (u8s (bytesW pre)) rfl (.slice A5 8 c5) 8 (u8s (putB x.2.1 8)) rfl ?_ (zE Hrow.out (show Grow W w5 from (Keep.refl NoB W).drew.grow Hg.out) (fun _ _ h=>h)) ((SliceR.of_own Hoo.out).src zW (zHB _)) (by simp only [maxLen];omega) (by omega) (by have:=Hg.out.size;have:=HB.out.size;simp at *;omega)
    intro v6 w6 hap
    have hap1:=zjC hc5 (by decide) (zE Hrow.out (show Grow W w5 from (Keep.refl NoB W).drew.grow Hg.out) (fun _ _ h=>h)) (by have:=Hg.out.size;have:=HB.out.size;simp at *;omega) (Nat.le_refl _) hap.own hap.grew
    obtain ⟨hv1,hv2,hr2,hk2,hb2⟩:=hap1
    obtain ⟨A6,c6,rfl,_⟩:=zJ hap.own
    have hc6:=hv1.cell
    have hf6:=hv1.frozen
    simp only [Act.put,pB,pC,pD]
    refine wpAnyIn_all (rs:=[4]) (by kernel_rfl) (by simp) ?_
    intro i hi
    simp only [List.mem_cons,List.not_mem_nil,or_false] at hi
    subst hi
    refine zYF rfl rfl rfl (by intro c h;cases h) (by go_simp;with_reducible rfl) ?_
    refine wpAnyIn_done (by kernel_rfl) ?_ _
    have hkW:KeepsOthers W w5:=⟨Hg.out.size,fun k o hk _=>Grow.heap ((Keep.refl NoB W).drew.grow Hg.out) hk⟩
    have hbW:Below w.heap.size W w5:=((Keep.refl NoB W).drew.grow Hg.out).below w.heap.size HB.out.size (fun _ h=>h.elim)
    have ho6:(w6.setCell ⟨w.heap.size,0,none⟩ (.slice A6 ((bytesW pre).length+8) c6)).ownsRow w.heap.size 5 1 (.slice A6 ((bytesW pre).length+8) c6) (bytesW (pre++[x])).length (u8s (bytesW (pre++[x]))):=by
     rw [show (bytesW (pre++[x])).length=(bytesW pre).length+8 from by rw [zz,zz,List.length_append,List.length_singleton];omega,hsn.out]
     exact hr2
    exact ⟨(hkW.trans hk2).from _,hbW.trans hb2,⟨_,hv2,ho6,trivial⟩,HB.out.trans (hbW.trans hb2)⟩
 case done =>
  rintro D ys W hD rfl ⟨⟨v,hv,hrow,-⟩,hB⟩ hK
  have hc:=hv.cell
  gi_wp2
  refine ⟨by simp,.inl ⟨_,_,rfl,run_takeDeferred hK,?_⟩⟩
  refine ⟨_,results_tmp rfl _ _ _,v,rfl,Keep.of_below (hB.trans (belowK_b (w:=w) (Nat.le_refl _) W D _ _ (by simp at hD;omega) hK rfl rfl)),ownsRow_putObj hrow _ hK rfl⟩
 case stop =>
  rintro D c pre W _ _ h _
  exact h.elim
end Go.Proofs.YtfkcpaahdlkcdaaGreat
namespace Go.Proofs.YtfkcpaahdlkcdaaGreat
open Go.RowKit
def stepN (n:Nat):Nat:=(n/2) ^^^ (2197175160*(n%2))
theorem zYJ {n:Nat} (h:n<4294967296):stepN n<4294967296:=by
 unfold stepN
 exact Nat.xor_lt_two_pow (n:=32) (by omega) (by omega)
theorem zlK {n:Nat} (h:n<4294967296):bits .xor .u32 ((n:Int)/2) (2197175160*bits .and .u32 (n:Int) 1%4294967296)=((stepN n:Nat):Int):=by
 have h1:bits .and .u32 (n:Int) 1=((n%2:Nat):Int):=by
  have:=u32_and_nat n 1 h (by decide)
  rw [Nat.and_one_is_mod] at this
  simpa using this
 have h2:(2197175160*((n%2:Nat):Int)%4294967296)=((2197175160*(n%2):Nat):Int):=by omega
 have h3:(n:Int)/2=((n/2:Nat):Int):=by omega
 rw [h1,h2,h3,u32_xor_nat _ _ (by omega) (by omega)]
 rfl
theorem zZJ (n:Nat) (w:World) (h:n<4294967296):Calls Tryz.prog 205 #[.int .u32 n] w fun e w'=>e=.returned (.int .u32 (stepN n:Nat))∧w=w':=by
 have E:=LH (zlK h)
 have h0:(0:Int)≤n:=by omega
 have h1:(n:Int)≤4294967295:=by omega
 go_enter Tryz.func205,Tryz.ntmps205
 go_wp2
 go_ret
 rw [← E.out]
 exact ⟨rfl,rfl⟩
def stepsN:Nat→Nat→Nat
 | 0,n=>n
 | k+1,n=>stepN (stepsN k n)
theorem zaB {n:Nat} (h:n<4294967296):∀ k,stepsN k n<4294967296
 | 0=>h
 | k+1=>zYJ (zaB h k)
theorem zeG (n:Nat) (w:World) (h:n<4294967296):Calls Tryz.prog 204 #[.int .u32 n] w fun e w'=>e=.returned (.int .u32 (stepsN 8 n:Nat))∧w=w':=by
 go_enter Tryz.func204,Tryz.ntmps204
 go_wp2
 go_loopw [0,3] (fun vn v wr=>wr=w∧∃ k:Nat,k≤8∧v=.int .i64 k∧vn=.int .u32 (stepsN k n:Nat)) (fun _ v _=>8-(intOf v).toNat)
 case atStart=>exact ⟨rfl,0,by omega,rfl,rfl⟩
 case round =>
  obtain ⟨rfl,k,hk,rfl,rfl⟩:=hrel
  have hlt2:=zaB h k
  by_cases hlt:k<8
  ·have hlt':(k:Int)<8:=by omega
   have hw:IntKind.i64.wrap ((k:Int)+1)=(k:Int)+1:=IntWalk.i64_in _ (by omega)
   go_wp2_with fail
   refine (zZJ _ wr hlt2).mono ?_
   rintro e w' ⟨rfl,rfl⟩
   go_wp2
   go_roundw
   case rel=>exact ⟨trivial,k+1,by omega,by go_num,rfl⟩
   case measure=>simp [intOf];omega
  ·obtain rfl:k=8:=by omega
   go_wp2
   go_ret
   exact ⟨rfl,rfl⟩
theorem zSI {P:Program} {ops:Array Oper} {Q:Exit→Act→World→Prop} {acts reads ds rest:List Nat} {i:Nat} {o:Oper} {a:Act} {w:World} {N:Option Tmp} {f:FuncId} {args:Array Value} (hl:ops.toList[i]? = some o) (ha:acts.contains i=true) (hN:o.dst=N) (hg:o.guard=none)
    (hy:(execOp a.eval o).run P w=.ok (.enter f args) w)
    (h:Calls P f args w fun e w'=>∃ v,e=.returned v∧(i∉ds→Grow w w')∧wpOrd NoB P ops Q acts reads ds rest (a.put N v) w'):wpOrd NoB P ops Q acts reads ds (i :: rest) a w:=by
 refine zrA hl ha (fun K hK=>?_)
 rw [if_pos (by simp [Region.wanted,hg])]
 subst hN
 unfold Oper.wp
 rw [hy,Oper.upon_enter]
 refine h.mono fun e w'' hh=>?_
 obtain ⟨v,rfl,h1,h2⟩:=hh
 exact hK _ _ ⟨h1,h2⟩
def tabL (k:Nat):List Value:=(List.range 256).map (fun i=>Value.int .u32 (if i<k then (stepsN 8 i:Nat) else 0))
theorem zSD (k:Nat):(tabL k).length=256:=by simp [tabL]
theorem zTI:Tryz.zeroCells294=(tabL 0).toArray:=by kernel_rfl
theorem zUI (k:Nat) (hk:k<256):(tabL k).set k (.int .u32 (stepsN 8 k:Nat))=tabL (k+1):=by
 apply List.ext_getElem (by simp [tabL])
 intro j h1 h2
 rw [List.getElem_set]
 simp only [tabL,List.getElem_map,List.getElem_range]
 split
 ·rename_i e
  subst e
  rw [if_pos (by omega)]
 ·rename_i e
  by_cases hj:j<k
  ·rw [if_pos hj,if_pos (by omega)]
  ·rw [if_neg hj,if_neg (by omega)]
def Tab (p:Nat) (w:World):Prop:=w.heap[p]? = some (.cells (tabL 256).toArray 294 (0,0))
theorem Tab.grow {p:Nat} {w w':World} (h:Tab p w) (hg:Grow w w'):Tab p w':=hg.heap h
theorem Tab.cell {p:Nat} {w:World} (h:Tab p w) (i:Nat) (hi:i<256):w.cell? ⟨p,i,none⟩=some (.int .u32 (stepsN 8 i:Nat)):=by
 have:=World.news_of_block h i (.int .u32 (stepsN 8 i:Nat)) (by simp [tabL,hi])
 rwa [show (⟨p,0,none⟩:Addr).add i=⟨p,0+i,none⟩ from Addr.add_lit ..,Nat.zero_add] at this
theorem zfG (w:World):Calls Tryz.prog 133 #[] w fun e w'=>e=.returned (.pointer (some ⟨w.heap.size,0,none⟩))∧Grow w w'∧Tab w.heap.size w':=by
 go_enter Tryz.func133,Tryz.ntmps133
 go_wp2
 go_loopw [5] (fun v wr=>∃ k:Nat,k≤256∧v=.int .i64 k∧Hid (Grow w wr∧wr.heap[w.heap.size]? = some (.cells (tabL k).toArray 294 (0,0)))) (fun v _=>256-(intOf v).toNat)
 case atStart=>exact ⟨0,by omega,rfl,(Keep.refl _ _).alloc _,by rw [← zTI];exact heap_alloc_new w _⟩
 case round =>
  obtain ⟨k,hk,rfl,HS⟩:=hrel
  by_cases hlt:k<256
  ·have hlt':(k:Int)<256:=by omega
   have hw:IntKind.i64.wrap ((k:Int)+1)=(k:Int)+1:=IntWalk.i64_in _ (by omega)
   have hk0:(0:Int)≤k:=by omega
   have hconv:IntKind.u32.wrap (k:Int)=k:=by rw [IntKind.wrap_u32'];omega
   have hc:wr.cell? ⟨w.heap.size,k,none⟩=some ((tabL k)[k]'(by rw [zSD];exact hlt)):=by
    have:=World.news_of_block HS.out.2 k _ (List.getElem?_eq_getElem (by rw [zSD];exact hlt))
    rwa [show (⟨w.heap.size,0,none⟩:Addr).add k=⟨w.heap.size,0+k,none⟩ from Addr.add_lit ..,Nat.zero_add] at this
   have hf:wr.frozen? ⟨w.heap.size,k,none⟩=false:=zM k HS.out.2
   go_wp2
   refine zD [0,1,2,3,6,4,5,7,8] [5,8] [] [8] rfl (by kernel_rfl) ?_
   iterate 6
    refine ord_p ?_
   refine zSI rfl rfl rfl rfl (f:=204) (args:=#[.int .u32 k]) (by go_simp) ?_
   refine (zeG k _ (by omega)).mono ?_
   rintro e w' ⟨rfl,rfl⟩
   refine ⟨_,rfl,fun _=>Keep.refl _ _,?_⟩
   simp only [Act.put,pB,pC,pD]
   refine ord_p ?_
   refine zK rfl rfl rfl rfl ?_ ?_ (fun h=>absurd (by simp) h) ?_
   rotate_left
   ·go_simp;with_reducible rfl
   refine zF ?_
   have HS2:Hid (Grow w (wr.setCell ⟨w.heap.size,k,none⟩ (.int .u32 (stepsN 8 k:Nat))).drew∧(wr.setCell ⟨w.heap.size,k,none⟩ (.int .u32 (stepsN 8 k:Nat))).drew.heap[w.heap.size]? = some (.cells (tabL (k+1)).toArray 294 (0,0))):=by
    refine ⟨(HS.out.1.setCell (p:=⟨w.heap.size,k,none⟩) (.inr (Nat.le_refl _)) _).drew,?_⟩
    rw [← zUI k hlt]
    show (wr.setCell ⟨w.heap.size,k,none⟩ (.int .u32 (stepsN 8 k:Nat))).heap[w.heap.size]? = _
    simp only [World.setCell,Array.getElem?_modify]
    simp [HS.out.2]
   go_wp2
   go_roundw
   case rel=>exact ⟨k+1,by omega,by go_num,HS2⟩
   case measure=>simp [intOf];omega
  ·obtain rfl:k=256:=by omega
   go_wp2
   go_ret
   exact ⟨rfl,HS.out⟩
def crcN (n:Nat) (bs:List Int):Nat:=bs.foldl (fun n c=>(n/256) ^^^ stepsN 8 ((n%256) ^^^ c.toNat)) n
theorem zVI (n:Nat) (bs:List Int) (c:Int):crcN n (bs++[c])=(crcN n bs/256) ^^^ stepsN 8 ((crcN n bs%256) ^^^ c.toNat):=by simp [crcN]
theorem zbF {n:Nat} (h:n<4294967296) {c:Int} (hc:0≤c∧c≤255):(n%256) ^^^ c.toNat<256∧(n/256) ^^^ stepsN 8 ((n%256) ^^^ c.toNat)<4294967296:=by
 have h2:(n%256) ^^^ c.toNat<256:=Nat.xor_lt_two_pow (n:=8) (by omega) (by omega)
 exact ⟨h2,Nat.xor_lt_two_pow (n:=32) (by omega) (zaB (by omega) 8)⟩
theorem zME {bs:List Int} (hb:∀ c∈bs,0≤c∧c≤255):∀ {n:Nat},n<4294967296→crcN n bs<4294967296:=by
 induction bs with
 | nil=>intro n h;exact h
 | cons c bs ih =>
  intro n h
  exact ih (fun x hx=>hb x (by simp [hx])) (zbF h (hb c (by simp))).2
def moreN (n:Nat) (bs:List Int):Nat:=4294967295 ^^^ crcN (4294967295 ^^^ n) bs
theorem zJD {n:Nat} (h:n<4294967296):4294967295 ^^^ n<4294967296:=Nat.xor_lt_two_pow (n:=32) (by decide) h
theorem zWI {n:Nat} (h:n<4294967296):bits .xor .u32 IntKind.u32.max (n:Int)=((4294967295 ^^^ n:Nat):Int):=u32_xor_nat 4294967295 n (by decide) h
theorem zZH (p:Nat) (n:Nat) (hn:n<4294967296) (bs:List Int) (hbig:bs.length≤1000000000) (hb:∀ c∈bs,0≤c∧c≤255) (A:Option Addr) (c:Nat) (w:World) (ht:Tab p w) (h:SliceR 1 (.slice A bs.length c) bs.length (u8s bs) w) :
    Calls Tryz.prog 135 #[.pointer (some ⟨p,0,none⟩),.int .u32 n,.slice A bs.length c] w fun e w'=>e=.returned (.int .u32 (moreN n bs:Nat))∧w=w':=by
 have HT:=LH ht
 have HB:=LH hb
 have H:=LH h
 clear ht hb h
 have h0:(0:Int)≤n:=by omega
 have h1:(n:Int)≤4294967295:=by omega
 go_enter Tryz.func135,Tryz.ntmps135
 have hsg:IntKind.u32.signed=false:=rfl
 have hnx:=zWI hn
 go_wp2
 clear hnx
 go_loopw [1,15] (fun vn v wr=>wr=w∧∃ k:Nat,k≤bs.length∧v=.int .i64 k∧vn=.int .u32 (crcN (4294967295 ^^^ n) (bs.take k):Nat)) (fun _ v _=>bs.length-(intOf v).toNat)
 case atStart=>exact ⟨rfl,0,by omega,rfl,by simp [crcN]⟩
 case round =>
  obtain ⟨rfl,k,hk,rfl,rfl⟩:=hrel
  have hlt2:crcN (4294967295 ^^^ n) (bs.take k)<4294967296:=zME (fun x hx=>HB.out x (List.mem_of_mem_take hx)) (zJD hn)
  by_cases hlt:k<bs.length
  ·have hlt':(k:Int)<bs.length:=by omega
   have hbl:bs.length≤1000000000:=hbig
   have hw:IntKind.i64.wrap ((k:Int)+1)=(k:Int)+1:=IntWalk.i64_in _ (by omega)
   obtain ⟨ad,rfl,q1⟩:=SliceR.int_at (k:=.u8) H.out k hlt
   have hc:=HB.out _ (List.getElem_mem hlt)
   obtain ⟨i1,i2⟩:=zbF hlt2 hc
   have hsn:crcN (4294967295 ^^^ n) (bs.take (k+1))=(crcN (4294967295 ^^^ n) (bs.take k)/256) ^^^ stepsN 8 ((crcN (4294967295 ^^^ n) (bs.take k)%256) ^^^ bs[k].toNat):=by
    rw [List.take_succ_eq_append_getElem hlt,zVI]
   have Hsn:=LH hsn
   generalize crcN (4294967295 ^^^ n) (bs.take k)=m at *
   have hx8:bits .xor .u8 ((m:Int)%256) bs[k]=(((m%256) ^^^ bs[k].toNat:Nat):Int):=by
    have:=u8_xor_nat (m%256) bs[k].toNat (by omega) (by omega)
    rwa [show ((m%256:Nat):Int)=(m:Int)%256 from by omega,show ((bs[k].toNat:Nat):Int)=bs[k] from by omega] at this
   have hx32:bits .xor .u32 ((m:Int)/256) (stepsN 8 ((m%256) ^^^ bs[k].toNat):Nat)=(((m/256) ^^^ stepsN 8 ((m%256) ^^^ bs[k].toNat):Nat):Int):=by
    have:=u32_xor_nat (m/256) (stepsN 8 ((m%256) ^^^ bs[k].toNat)) (by omega) (zaB (by omega) 8)
    rwa [show ((m/256:Nat):Int)=(m:Int)/256 from by omega] at this
   have qt:=HT.out.cell _ i1
   have hi1:(((m%256) ^^^ bs[k].toNat:Nat):Int)<256:=by omega
   clear hsn
   generalize (m%256) ^^^ bs[k].toNat=ix at *
   go_wp2
   trace_state
   go_roundw
   case rel=>exact ⟨trivial,k+1,by omega,by go_num,by rw [Hsn.out]⟩
   case measure=>simp [intOf];omega
  ·obtain rfl:k=bs.length:=by omega
   have hlt':¬ ((bs.length:Int)<bs.length):=by omega
   rw [List.take_length] at hlt2 ⊢
   have hnx:=zWI hlt2
   have E:Hid (moreN n bs=4294967295 ^^^ crcN (4294967295 ^^^ n) bs):=LH rfl
   go_wp2
   go_ret
   exact ⟨by rw [E.out];rfl,rfl⟩
end Go.Proofs.YtfkcpaahdlkcdaaGreat

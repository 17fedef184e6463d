import Derived.Test.YtfkcpaahdlkcdaaGreatRRecvSum03
set_option linter.unusedSimpArgs false
set_option linter.unusedVariables false
set_option maxRecDepth 100000
set_option maxHeartbeats 16000000
namespace Go.Proofs.YtfkcpaahdlkcdaaGreat
open Go.RowKit
theorem zfK {sz:List Int} {wd:Int→Int→Int×Int} (ho:SouOk sz wd) {l:Nat} (IH:Hid (NodeAt sz wd l)) (hll:l≤1000) (sv:Value) (W0:World) (D:Nat) (paid seg at_:Int) (w:World) (hS:Sou sv sz wd W0) (hD:Dec D sv paid w) (hD0:W0.heap.size≤D) (hg:Grow W0 w) (p0:0≤paid) (p1:paid≤8192) (hcase:(followP sz wd seg at_).1.size=0) (hkz:(followP sz wd seg at_).1.kind≠0) :
    Calls Tryz.prog 244 #[.pointer (some ⟨D,0,none⟩),.int .i64 seg,.int .i64 at_,.int .i64 (l+1:Nat)] w (NPost (nodeP sz wd (l+1) seg at_ paid) D sv w):=by
 obtain ⟨T,pv,fw,fs,r,rfl,-⟩:=hS.out
 have HSO:=LH ho
 have HS0:=LH hS
 have hg0:=(Keep.refl NoB w).alloc (.cells #[.int .i64 0,.int .i64 0,.slice none 0 0,.slice none 0 0,.slice none 0 0] 114)
 have HS:=LH (hS.grow (hg.grow hg0))
 have dc0:=(hD.grow hg0).c0
 have HD:=LH (And.intro hD (And.intro hD0 hg))
 have E0:Hid (nodeP sz wd (l+1) seg at_ paid=nodeS sz wd false (nodeP sz wd l) seg at_ paid):=LH rfl
 clear hS hD hD0 hg hg0 ho
 go_enter Tryz.func244,Tryz.ntmps244
 go_wp2_with fail
 refine (zZA HS.out HSO.out seg at_).mono ?_
 rintro e w1 ⟨rfl,hg1⟩
 have HO:=LH (zn HSO.out seg at_)
 unfold nodeS at E0
 generalize (followP sz wd seg at_).1=o at *
 generalize (followP sz wd seg at_).2=fe at *
 have HNS:=LH (zTB (o:=o) HD.out.1 HD.out.2.1 HD.out.2.2 hg1)
 clear hg1 dc0
 have HC:=LH hcase
 have HKZ:=LH hkz
 clear hcase hkz
 by_cases he:fe=0
 case neg =>
  have eb:(fe != 0)=true:=by simp [he]
  have E:=LH (E0.out.trans (if_neg he))
  clear he
  obtain ⟨n0,n1,n2,n3,n4,nf⟩:=zA HNS.out.nod
  have HNE:=LH (HNS.out.all (.int .i64 0) (.int .i64 0) (.slice none 0 0) (.slice none 0 0) (.slice none 0 0))
  go_wp2
  (try simp only [Exit.inBlock,Exit.then])
  obtain ⟨r0,r1,r2,r3,r4,rf⟩:=zA HNE.out.nod
  refine bodyPost_ret (v:=.tuple #[.agg #[.int .i64 0,.int .i64 0,.slice none 0 0,.slice none 0 0,.slice none 0 0],.int .u16 fe]) ?_ rfl (zg HNE.out (er:=fe) E.out)
  rw [results_cell_tmp rfl];go_simp
 subst he
 replace E0:=LH (E0.out.trans (if_pos (by simp)))
 replace E0:=LH (E0.out.trans (if_neg (by simp)))
 obtain ⟨o0,o1,o2,o3,o4,o5,o6,of⟩:=zC HNS.out.drew.obj
 have hD1:=HNS.out.drew.dec.c1
 have hDf:=zM 1 HNS.out.drew.dec
 have hDc0:=HNS.out.drew.dec.c0
 have how:=zv HO.out
 have hw0:=how.1
 have hw1:=how.2
 have HNP:=LH (HNS.out.drew)
 have hs1:IntKind.i64.wrap (1+obWords o)=1+obWords o:=IntWalk.i64_in _ (by omega)
 have hs2:IntKind.i64.wrap (paid+(1+obWords o))=paid+(1+obWords o):=IntWalk.i64_in _ (by omega)
 clear how
 go_wp2
 refine zD [0,1,2,3,4,5,6,7,8,9,10] [5,10] [3,4] [10] rfl (by kernel_rfl) ?_
 iterate 3
  refine ord_p ?_
 refine ord_r (y:=by intro w' hg;have q:=hg.cell hD1 (fun h=>h);go_simp;with_reducible rfl) (z:=?_)
 refine ord_r (y:=by intro w' hg;have q0:=hg.cell o0 (fun h=>h);have q1:=hg.cell o1 (fun h=>h);have q2:=hg.cell o2 (fun h=>h);have q3:=hg.cell o3 (fun h=>h);have q4:=hg.cell o4 (fun h=>h);have q5:=hg.cell o5 (fun h=>h);have q6:=hg.cell o6 (fun h=>h);go_simp;with_reducible rfl) (z:=?_)
 refine zG rfl rfl rfl rfl rfl Tryz.func264 rfl rfl [.agg #[.int .i64 o.kind,.int .i64 o.seg,.int .i64 o.at_,.int .i64 o.data,.int .i64 o.ptrs,.int .i64 o.size,.int .i64 o.count]] rfl ?_
 refine (zYA o _ HO.out.ok).mono ?_
 rintro e w2 ⟨rfl,hg2⟩
 refine ⟨_,rfl,fun _=>hg2,?_⟩
 have HNQ:=LH (HNP.out.grow hg2)
 have hD1':=HNQ.out.dec.c1
 have hDf':=zM 1 HNQ.out.dec
 clear hg2 o0 o1 o2 o3 o4 o5 o6 of hD1 hDf hDc0
 simp only [Act.put,pB,pC,pD]
 iterate 4
  refine ord_p ?_
 refine zK rfl rfl rfl rfl ?_ ?_ (fun h=>absurd (by simp) h) ?_
 rotate_left
 ·go_simp;with_reducible rfl
 refine zF ?_
 replace HNS:=LH (HNQ.out.pay (paid+(1+obWords o)))
 clear HNP HNQ hD1' hDf' hs1 hs2
 generalize w2.setCell ⟨D,1,none⟩ (.int .i64 (paid+(1+obWords o)))=cw at HNS ⊢
 obtain ⟨o0,o1,o2,o3,o4,o5,o6,of⟩:=zC HNS.out.obj
 have hl0:((l:Int)+1==0)=false:=beq_eq_false_iff_ne.2 (by omega)
 have hD1:=HNS.out.dec.c1
 by_cases hp:8192<paid+(1+obWords o)
 ·have E:=LH (E0.out.trans (if_pos hp))
  have eb:(o.kind != 0)=true:=by have:=HKZ.out;simp [this]
  obtain ⟨n0,n1,n2,n3,n4,nf⟩:=zA HNS.out.nod
  have HNE:=LH (HNS.out.all (.int .i64 0) (.int .i64 0) (.slice none 0 0) (.slice none 0 0) (.slice none 0 0))
  go_wp2
  (try simp only [Exit.inBlock,Exit.then])
  obtain ⟨r0,r1,r2,r3,r4,rf⟩:=zA HNE.out.nod
  refine bodyPost_ret (v:=.tuple #[.agg #[.int .i64 0,.int .i64 0,.slice none 0 0,.slice none 0 0,.slice none 0 0],.int .u16 22]) ?_ rfl (zg HNE.out (er:=22) E.out)
  rw [results_cell_tmp rfl];go_simp
 replace E0:=LH (E0.out.trans (if_neg hp))
 have hpp:paid+(1+obWords o)≤8192:=by omega
 clear hp
 have da0:0≤o.data:=HO.out.ok.d.1
 have da1:o.data≤65535:=HO.out.ok.d.2
 have at0:0≤o.at_:=HO.out.at0
 have pt0:0≤o.ptrs:=HO.out.ok.q.1
 have pt1:o.ptrs≤65535:=HO.out.ok.q.2
 have ct0:0≤o.count:=HO.out.ok.c.1
 have hcs:=HO.out.cases
 have hsz:=HC.out
 have at1:o.at_≤100000:=by
  rcases hcs with h | h | h
  ·rw [h];simp [ob0]
  ·omega
  ·omega
 have hz2:(o.size==2)=false:=by simp [hsz]
 have hz5:(o.size==5)=false:=by simp [hsz]
 have hz6:(o.size==6)=false:=by simp [hsz]
 have eb:(o.kind != 0)=true:=by have:=HKZ.out;simp [this]
 clear hcs hsz
 obtain ⟨n0,n1,n2,n3,n4,nf⟩:=zA HNS.out.nod
 go_wp2
 go_region
 replace HNS:=LH (((HNS.out.put 0 (.int .i64 o.kind) _ _ _ _ _ (by omega) rfl).put 1 (.int .i64 o.size) _ _ _ _ _ (by omega) rfl).drew)
 clear o0 o1 o2 o3 o4 o5 o6 of n0 n1 n2 n3 n4 nf hD1
 generalize ((cw.setCell ⟨w.heap.size,0,none⟩ (.int .i64 o.kind)).setCell ⟨w.heap.size,1,none⟩ (.int .i64 o.size)).drew=cv at HNS ⊢
 obtain ⟨o0,o1,o2,o3,o4,o5,o6,of⟩:=zC HNS.out.obj
 have hs3:IntKind.i64.wrap (o.at_+o.data)=o.at_+o.data:=IntWalk.i64_in _ (by omega)
 go_wp2
 go_region
 replace HNS:=LH HNS.out.drew
 clear o0 o1 o2 o3 o4 o5 o6 of hs3
 generalize cv.drew=cu at HNS ⊢
 obtain ⟨o0,o1,o2,o3,o4,o5,o6,of⟩:=zC HNS.out.obj
 have hO1:w1.heap.size+1≤cu.heap.size:=(gE HNS.out.obj).1
 have hNO:w.heap.size<w1.heap.size:=HNS.out.lo.2.2.2
 have hNOn:w.heap.size≠w1.heap.size:=by omega
 go_wp2_with fail
 refine (zdA HNS.out.dec (HS0.out.grow HNS.out.base) o.seg o.at_ o.data da0 at0 (by omega)).mono ?_
 rintro e w3 ⟨A1,c1,rfl,hg,ho1⟩
 replace HNS:=LH (HNS.out.grow hg)
 have HW:=LH (zmA ho1 hO1)
 clear hg ho1 o0 o1 o2 o3 o4 o5 o6 of hO1
 obtain ⟨o0,o1,o2,o3,o4,o5,o6,of⟩:=zC HNS.out.obj
 obtain ⟨n0,n1,n2,n3,n4,nf⟩:=zA HNS.out.nod
 go_wp2
 replace HNS:=LH (HNS.out.put 2 (.slice A1 (wordsP wd o.seg o.at_ o.data.toNat).length c1) _ _ _ _ _ (by omega) rfl)
 replace HW:=LH (zaA HW.out (N:=w.heap.size) (by omega) 2 (.slice A1 (wordsP wd o.seg o.at_ o.data.toNat).length c1))
 generalize w3.setCell ⟨w.heap.size,2,none⟩ (.slice A1 (wordsP wd o.seg o.at_ o.data.toNat).length c1)=c2 at HNS HW ⊢
 have HV:=LH (World.ownsRow_nil c2 (w1.heap.size+1) 5 1)
 clear o0 o1 o2 o3 o4 o5 o6 of n0 n1 n2 n3 n4 nf
 have HK0:=LH (KL.begin (bs:=[]) (at0:=o.at_+o.data) (f:=nodeP sz wd l o.seg) HNS.out HW.out HV.out)
 clear HNS HW HV
 go_loopw [109] (fun v wr=>∃ (k:Nat),k≤(o.ptrs).toNat∧v=.int .i64 k∧∃ A4 c4 rows,Hid (KL W0 w D w.heap.size w1.heap.size (.iface T pv) o (nodeP sz wd l o.seg) (o.at_+o.data) (paid+(1+obWords o)) (wordsP wd o.seg o.at_ o.data.toNat) ([]) (.slice A1 (wordsP wd o.seg o.at_ o.data.toNat).length c1) (.slice none 0 0) k (.slice A4 k c4) rows wr)) (fun v _=>(o.ptrs).toNat-(intOf v).toNat)
 case atStart=>exact ⟨0,by omega,rfl,none,0,[],HK0⟩
 case round =>
  clear HK0
  obtain ⟨k,hk,rfl,A4,c4,rows,HK⟩:=hrel
  obtain ⟨o0,o1,o2,o3,o4,o5,o6,of⟩:=zC HK.out.ns.obj
  obtain ⟨n0,n1,n2,n3,n4,nf⟩:=zA HK.out.ns.nod
  by_cases hlt:k<(o.ptrs).toNat
  ·have hlt':(k:Int)<o.ptrs:=by omega
   have hkk:(k:Int)≤200000:=by omega
   have hw:IntKind.i64.wrap ((k:Int)+1)=(k:Int)+1:=IntWalk.i64_in _ (by omega)
   have hl1:IntKind.i64.wrap ((l:Int)+1-1)=l:=by rw [show (l:Int)+1-1=l from by omega];exact IntWalk.i64_in _ (by omega)
   have hpd:=zMB (f:=nodeP sz wd l o.seg) (at0:=o.at_+o.data) (zfB HSO.out l o.seg) (show 0≤paid+(1+obWords o) by omega) hpp k HK.out.ok
   have Hpd:=LH hpd
   clear hpd
   go_wp2_with fail
   refine (IH.out (.iface T pv) W0 D (kidsK (nodeP sz wd l o.seg) (o.at_+o.data) (paid+(1+obWords o)) k).2.2 o.seg (o.at_+o.data+k) wr HS0.out HK.out.ns.dec HD.out.2.1 HK.out.ns.base Hpd.out.1 Hpd.out.2).mono ?_
   rintro e w4 ⟨xw,xb,xk,rfl,hdec,hkeep,hfoot,htrb⟩
   have Hsu:Hid (kidsK (nodeP sz wd l o.seg) (o.at_+o.data) (paid+(1+obWords o)) (k+1)=if (kidsK (nodeP sz wd l o.seg) (o.at_+o.data) (paid+(1+obWords o)) k).2.1=0 then (if (nodeP sz wd l o.seg (o.at_+o.data+k) (kidsK (nodeP sz wd l o.seg) (o.at_+o.data) (paid+(1+obWords o)) k).2.2).2.1=0 then ((kidsK (nodeP sz wd l o.seg) (o.at_+o.data) (paid+(1+obWords o)) k).1++[(nodeP sz wd l o.seg (o.at_+o.data+k) (kidsK (nodeP sz wd l o.seg) (o.at_+o.data) (paid+(1+obWords o)) k).2.2).1],0,(nodeP sz wd l o.seg (o.at_+o.data+k) (kidsK (nodeP sz wd l o.seg) (o.at_+o.data) (paid+(1+obWords o)) k).2.2).2.2) else ([],(nodeP sz wd l o.seg (o.at_+o.data+k) (kidsK (nodeP sz wd l o.seg) (o.at_+o.data) (paid+(1+obWords o)) k).2.2).2.1,(nodeP sz wd l o.seg (o.at_+o.data+k) (kidsK (nodeP sz wd l o.seg) (o.at_+o.data) (paid+(1+obWords o)) k).2.2).2.2)) else kidsK (nodeP sz wd l o.seg) (o.at_+o.data) (paid+(1+obWords o)) k):=LH rfl
   have Hok:=LH HK.out.ok
   obtain ⟨B1,d1,B2,d2,B3,d3,rfl,rfl,rfl⟩:=hfoot.now.parts
   have HM:=LH (HK.out.called hdec hkeep hfoot)
   have Htb:=LH htrb
   clear hdec hkeep hfoot htrb o0 o1 o2 o3 o4 o5 o6 of n0 n1 n2 n3 n4 nf
   generalize nodeP sz wd l o.seg (o.at_+o.data+k) (kidsK (nodeP sz wd l o.seg) (o.at_+o.data) (paid+(1+obWords o)) k).2.2=r at *
   have hga:=(Keep.refl NoB w4).alloc (.cells #[.int .i64 r.1.kind,.int .i64 r.1.size,.slice B1 r.1.ws.length d1,.slice B2 r.1.bs.length d2,.slice B3 r.1.kids.length d3] 114)
   have hna:=heap_alloc_new w4 (.cells #[.int .i64 r.1.kind,.int .i64 r.1.size,.slice B1 r.1.ws.length d1,.slice B2 r.1.bs.length d2,.slice B3 r.1.kids.length d3] 114)
   replace HM:=LH (HM.out.grow hga)
   have HNA:=LH hna
   clear hga hna
   obtain ⟨t0,t1,t2,t3,t4,tf⟩:=zA HNA.out
   obtain ⟨n0,n1,n2,n3,n4,nf⟩:=zA HM.out.ns.nod
   by_cases her:r.2.1=0
   case neg =>
    have eb:(r.2.1 != 0)=true:=by simp [her]
    have e1:kidsK (nodeP sz wd l o.seg) (o.at_+o.data) (paid+(1+obWords o)) (k+1)=([],r.2.1,r.2.2):=by rw [Hsu.out,if_pos Hok.out,if_neg her]
    have e2:kidsK (nodeP sz wd l o.seg) (o.at_+o.data) (paid+(1+obWords o)) (o.ptrs).toNat=([],r.2.1,r.2.2):=(ziC _ _ _ (k:=k+1) (by rw [e1];exact her) (by omega)).trans e1
    have E:Hid (nodeP sz wd (l+1) seg at_ paid=(tr0,r.2.1,r.2.2)):=LH (E0.out.trans ((zqD (at0:=o.at_+o.data) (n:=(o.ptrs).toNat) (by rw [HC.out];rfl) (by rw [HC.out];rfl) (by rw [e2];exact her)).trans (by rw [e2])))
    have HNS:=LH HM.out.ns
    clear her e1 e2 n0 n1 n2 n3 n4 nf
    obtain ⟨n0,n1,n2,n3,n4,nf⟩:=zA HNS.out.nod
    have HNE:=LH (HNS.out.all (.int .i64 0) (.int .i64 0) (.slice none 0 0) (.slice none 0 0) (.slice none 0 0))
    go_wp2
    (try simp only [Exit.inBlock,Exit.then])
    obtain ⟨r0,r1,r2,r3,r4,rf⟩:=zA HNE.out.nod
    refine bodyPost_ret (v:=.tuple #[.agg #[.int .i64 0,.int .i64 0,.slice none 0 0,.slice none 0 0,.slice none 0 0],.int .u16 r.2.1]) ?_ rfl (zg HNE.out (er:=r.2.1) E.out)
    rw [results_cell_tmp rfl];go_simp
   have eb:(r.2.1 != 0)=false:=by simp [her]
   have e1:kidsK (nodeP sz wd l o.seg) (o.at_+o.data) (paid+(1+obWords o)) (k+1)=((kidsK (nodeP sz wd l o.seg) (o.at_+o.data) (paid+(1+obWords o)) k).1++[r.1],0,r.2.2):=by rw [Hsu.out,if_pos Hok.out,if_pos her]
   have He1:=LH e1
   clear e1 her
   have HSRC:Hid (((w4.alloc (.cells #[.int .i64 r.1.kind,.int .i64 r.1.size,.slice B1 r.1.ws.length d1,.slice B2 r.1.bs.length d2,.slice B3 r.1.kids.length d3] 114)).alloc (.cells #[.int .i64 r.1.kind,.int .i64 r.1.size,.slice B1 r.1.ws.length d1,.slice B2 r.1.bs.length d2,.slice B3 r.1.kids.length d3] 114)).heap[w4.heap.size+1]? = some (.cells #[.int .i64 r.1.kind,.int .i64 r.1.size,.slice B1 r.1.ws.length d1,.slice B2 r.1.bs.length d2,.slice B3 r.1.kids.length d3] 114)):=LH (by have:=heap_alloc_new (w4.alloc (.cells #[.int .i64 r.1.kind,.int .i64 r.1.size,.slice B1 r.1.ws.length d1,.slice B2 r.1.bs.length d2,.slice B3 r.1.kids.length d3] 114)) (.cells #[.int .i64 r.1.kind,.int .i64 r.1.size,.slice B1 r.1.ws.length d1,.slice B2 r.1.bs.length d2,.slice B3 r.1.kids.length d3] 114);simpa using this)
   have HSZ:Hid (w1.heap.size+1≤((w4.alloc (.cells #[.int .i64 r.1.kind,.int .i64 r.1.size,.slice B1 r.1.ws.length d1,.slice B2 r.1.bs.length d2,.slice B3 r.1.kids.length d3] 114)).alloc (.cells #[.int .i64 r.1.kind,.int .i64 r.1.size,.slice B1 r.1.ws.length d1,.slice B2 r.1.bs.length d2,.slice B3 r.1.kids.length d3] 114)).heap.size):=LH (by have:=(gE HM.out.ns.obj).1;simp at this ⊢;omega)
   go_wp2_with (at_builtin;refine zL _ rfl _ _ 112 112 rfl (w1.heap.size+1) 114 (.agg #[.int .i64 0,.int .i64 0,.slice none 0 0,.slice none 0 0,.slice none 0 0]) 5 88 zt zVA rfl (.slice A4 k c4) k (kcs rows) rfl (.slice (some ⟨w4.heap.size+1,0,none⟩) 1 1) 1 [.int .i64 r.1.kind,.int .i64 r.1.size,.slice B1 r.1.ws.length d1,.slice B2 r.1.bs.length d2,.slice B3 r.1.kids.length d3] rfl ?_ (by exact zE HM.out.own ((Keep.refl NoB _).alloc _) (fun _ _ h=>h)) (by exact Src.ofSlice _ zt ⟨w4.heap.size+1,0,none⟩ 1 1 _ rfl (World.news_of_block (cs:=#[.int .i64 r.1.kind,.int .i64 r.1.size,.slice B1 r.1.ws.length d1,.slice B2 r.1.bs.length d2,.slice B3 r.1.kids.length d3]) (t:=114) (fr:=(0,0)) (by exact HSRC.out)) (by simp [Value.oneCell'])) (by simp only [maxLen];omega) (by omega) (by exact HSZ.out);intro v5 w5 hap;refine Hid.out ?_)
   refine LH ?_
   replace HM:=LH (HM.out.grow ((Keep.refl NoB _).alloc (.cells #[.int .i64 r.1.kind,.int .i64 r.1.size,.slice B1 r.1.ws.length d1,.slice B2 r.1.bs.length d2,.slice B3 r.1.kids.length d3] 114)))
   rw [show r.2.2=(kidsK (nodeP sz wd l o.seg) (o.at_+o.data) (paid+(1+obWords o)) (k+1)).2.2 from by rw [He1.out]] at HM
   have hfin:=HM.out.appended hap (by rw [He1.out]) (by rw [He1.out,List.map_append,HK.out.kids];rfl) HK.out.len (fun x hx=>by
    rcases List.mem_append.1 hx with e | e
    ·exact HK.out.trb x e
    ·rw [List.mem_singleton.1 e];exact Htb.out)
   obtain ⟨A6,c6,rfl,_⟩:=zJ hap.own
   have HF:=LH hfin.1
   clear n0 n1 n2 n3 n4 nf t0 t1 t2 t3 t4 tf hap
   obtain ⟨n0,n1,n2,n3,n4,nf⟩:=zA hfin.2.nod
   clear hfin
   go_wp2
   go_roundw
   case rel=>exact ⟨k+1,by omega,by go_num,A6,c6,_,HF⟩
   case measure=>simp [intOf];omega
  ·obtain rfl:k=(o.ptrs).toNat:=by omega
   have hlt':¬ (((o.ptrs).toNat:Int)<o.ptrs):=by omega
   have hN:(o.ptrs).toNat≤1000000:=by omega
   have E:Hid (nodeP sz wd (l+1) seg at_ paid=(.mk o.kind o.size (wordsP wd o.seg o.at_ o.data.toNat) ([]) (kidsK (nodeP sz wd l o.seg) (o.at_+o.data) (paid+(1+obWords o)) (o.ptrs).toNat).1,0,(kidsK (nodeP sz wd l o.seg) (o.at_+o.data) (paid+(1+obWords o)) (o.ptrs).toNat).2.2)):=LH (E0.out.trans (ztA (by rw [HC.out];rfl) (by rw [HC.out];rfl) (by rw [HC.out];rfl) (by rw [HC.out];rfl) HK.out.ok))
   have HNE:=LH (HK.out.ns.all (.int .i64 o.kind) (.int .i64 o.size) (.slice A1 (wordsP wd o.seg o.at_ o.data.toNat).length c1) (.slice none 0 0) (.slice A4 (o.ptrs).toNat c4))
   go_wp2
   (try simp only [Exit.inBlock,Exit.then])
   obtain ⟨r0,r1,r2,r3,r4,rf⟩:=zA HNE.out.nod
   refine bodyPost_ret (v:=.tuple #[.agg #[.int .i64 o.kind,.int .i64 o.size,.slice A1 (wordsP wd o.seg o.at_ o.data.toNat).length c1,.slice none 0 0,.slice A4 (o.ptrs).toNat c4],.int .u16 0]) ?_ rfl (HK.out.post HNE.out (zb _ _ _ _ _) E.out (by rw [zj];omega) (by first | simp | (rw [zGA];omega)) (by omega))
   rw [results_cell_tmp rfl];go_simp
theorem zgK {sz:List Int} {wd:Int→Int→Int×Int} (ho:SouOk sz wd) {l:Nat} (IH:Hid (NodeAt sz wd l)) (hll:l≤1000) (sv:Value) (W0:World) (D:Nat) (paid seg at_:Int) (w:World) (hS:Sou sv sz wd W0) (hD:Dec D sv paid w) (hD0:W0.heap.size≤D) (hg:Grow W0 w) (p0:0≤paid) (p1:paid≤8192) (hcase:(followP sz wd seg at_).1.size=2) (hkz:(followP sz wd seg at_).1.kind≠0) :
    Calls Tryz.prog 244 #[.pointer (some ⟨D,0,none⟩),.int .i64 seg,.int .i64 at_,.int .i64 (l+1:Nat)] w (NPost (nodeP sz wd (l+1) seg at_ paid) D sv w):=by
 obtain ⟨T,pv,fw,fs,r,rfl,-⟩:=hS.out
 have HSO:=LH ho
 have HS0:=LH hS
 have hg0:=(Keep.refl NoB w).alloc (.cells #[.int .i64 0,.int .i64 0,.slice none 0 0,.slice none 0 0,.slice none 0 0] 114)
 have HS:=LH (hS.grow (hg.grow hg0))
 have dc0:=(hD.grow hg0).c0
 have HD:=LH (And.intro hD (And.intro hD0 hg))
 have E0:Hid (nodeP sz wd (l+1) seg at_ paid=nodeS sz wd false (nodeP sz wd l) seg at_ paid):=LH rfl
 clear hS hD hD0 hg hg0 ho
 go_enter Tryz.func244,Tryz.ntmps244
 go_wp2_with fail
 refine (zZA HS.out HSO.out seg at_).mono ?_
 rintro e w1 ⟨rfl,hg1⟩
 have HO:=LH (zn HSO.out seg at_)
 unfold nodeS at E0
 generalize (followP sz wd seg at_).1=o at *
 generalize (followP sz wd seg at_).2=fe at *
 have HNS:=LH (zTB (o:=o) HD.out.1 HD.out.2.1 HD.out.2.2 hg1)
 clear hg1 dc0
 have HC:=LH hcase
 have HKZ:=LH hkz
 clear hcase hkz
 by_cases he:fe=0
 case neg =>
  have eb:(fe != 0)=true:=by simp [he]
  have E:=LH (E0.out.trans (if_neg he))
  clear he
  obtain ⟨n0,n1,n2,n3,n4,nf⟩:=zA HNS.out.nod
  have HNE:=LH (HNS.out.all (.int .i64 0) (.int .i64 0) (.slice none 0 0) (.slice none 0 0) (.slice none 0 0))
  go_wp2
  (try simp only [Exit.inBlock,Exit.then])
  obtain ⟨r0,r1,r2,r3,r4,rf⟩:=zA HNE.out.nod
  refine bodyPost_ret (v:=.tuple #[.agg #[.int .i64 0,.int .i64 0,.slice none 0 0,.slice none 0 0,.slice none 0 0],.int .u16 fe]) ?_ rfl (zg HNE.out (er:=fe) E.out)
  rw [results_cell_tmp rfl];go_simp
 subst he
 replace E0:=LH (E0.out.trans (if_pos (by simp)))
 replace E0:=LH (E0.out.trans (if_neg (by simp)))
 obtain ⟨o0,o1,o2,o3,o4,o5,o6,of⟩:=zC HNS.out.drew.obj
 have hD1:=HNS.out.drew.dec.c1
 have hDf:=zM 1 HNS.out.drew.dec
 have hDc0:=HNS.out.drew.dec.c0
 have how:=zv HO.out
 have hw0:=how.1
 have hw1:=how.2
 have HNP:=LH (HNS.out.drew)
 have hs1:IntKind.i64.wrap (1+obWords o)=1+obWords o:=IntWalk.i64_in _ (by omega)
 have hs2:IntKind.i64.wrap (paid+(1+obWords o))=paid+(1+obWords o):=IntWalk.i64_in _ (by omega)
 clear how
 go_wp2
 refine zD [0,1,2,3,4,5,6,7,8,9,10] [5,10] [3,4] [10] rfl (by kernel_rfl) ?_
 iterate 3
  refine ord_p ?_
 refine ord_r (y:=by intro w' hg;have q:=hg.cell hD1 (fun h=>h);go_simp;with_reducible rfl) (z:=?_)
 refine ord_r (y:=by intro w' hg;have q0:=hg.cell o0 (fun h=>h);have q1:=hg.cell o1 (fun h=>h);have q2:=hg.cell o2 (fun h=>h);have q3:=hg.cell o3 (fun h=>h);have q4:=hg.cell o4 (fun h=>h);have q5:=hg.cell o5 (fun h=>h);have q6:=hg.cell o6 (fun h=>h);go_simp;with_reducible rfl) (z:=?_)
 refine zG rfl rfl rfl rfl rfl Tryz.func264 rfl rfl [.agg #[.int .i64 o.kind,.int .i64 o.seg,.int .i64 o.at_,.int .i64 o.data,.int .i64 o.ptrs,.int .i64 o.size,.int .i64 o.count]] rfl ?_
 refine (zYA o _ HO.out.ok).mono ?_
 rintro e w2 ⟨rfl,hg2⟩
 refine ⟨_,rfl,fun _=>hg2,?_⟩
 have HNQ:=LH (HNP.out.grow hg2)
 have hD1':=HNQ.out.dec.c1
 have hDf':=zM 1 HNQ.out.dec
 clear hg2 o0 o1 o2 o3 o4 o5 o6 of hD1 hDf hDc0
 simp only [Act.put,pB,pC,pD]
 iterate 4
  refine ord_p ?_
 refine zK rfl rfl rfl rfl ?_ ?_ (fun h=>absurd (by simp) h) ?_
 rotate_left
 ·go_simp;with_reducible rfl
 refine zF ?_
 replace HNS:=LH (HNQ.out.pay (paid+(1+obWords o)))
 clear HNP HNQ hD1' hDf' hs1 hs2
 generalize w2.setCell ⟨D,1,none⟩ (.int .i64 (paid+(1+obWords o)))=cw at HNS ⊢
 obtain ⟨o0,o1,o2,o3,o4,o5,o6,of⟩:=zC HNS.out.obj
 have hl0:((l:Int)+1==0)=false:=beq_eq_false_iff_ne.2 (by omega)
 have hD1:=HNS.out.dec.c1
 by_cases hp:8192<paid+(1+obWords o)
 ·have E:=LH (E0.out.trans (if_pos hp))
  have eb:(o.kind != 0)=true:=by have:=HKZ.out;simp [this]
  obtain ⟨n0,n1,n2,n3,n4,nf⟩:=zA HNS.out.nod
  have HNE:=LH (HNS.out.all (.int .i64 0) (.int .i64 0) (.slice none 0 0) (.slice none 0 0) (.slice none 0 0))
  go_wp2
  (try simp only [Exit.inBlock,Exit.then])
  obtain ⟨r0,r1,r2,r3,r4,rf⟩:=zA HNE.out.nod
  refine bodyPost_ret (v:=.tuple #[.agg #[.int .i64 0,.int .i64 0,.slice none 0 0,.slice none 0 0,.slice none 0 0],.int .u16 22]) ?_ rfl (zg HNE.out (er:=22) E.out)
  rw [results_cell_tmp rfl];go_simp
 replace E0:=LH (E0.out.trans (if_neg hp))
 have hpp:paid+(1+obWords o)≤8192:=by omega
 clear hp
 have da0:0≤o.data:=HO.out.ok.d.1
 have da1:o.data≤65535:=HO.out.ok.d.2
 have at0:0≤o.at_:=HO.out.at0
 have pt0:0≤o.ptrs:=HO.out.ok.q.1
 have pt1:o.ptrs≤65535:=HO.out.ok.q.2
 have ct0:0≤o.count:=HO.out.ok.c.1
 have hcs:=HO.out.cases
 have hsz:=HC.out
 have hc2:o.kind=2∧o.data=0∧o.ptrs=0∧o.at_+(o.count+7)/8≤100000:=by
  rcases hcs with h | h | h
  ·rw [h] at hsz;simp [ob0] at hsz
  ·omega
  ·omega
 have at1:o.at_≤100000:=by omega
 have ct1:o.count≤800000:=by omega
 have hpt:o.ptrs≤0:=by omega
 have hdt0:o.data.toNat≤1000000:=by omega
 have Hc2:=LH hc2
 clear hc2
 have hz2:(o.size==2)=true:=by simp [hsz]
 have hz5:(o.size==5)=false:=by simp [hsz]
 have hz6:(o.size==6)=false:=by simp [hsz]
 have eb:(o.kind != 0)=true:=by have:=HKZ.out;simp [this]
 clear hcs hsz
 obtain ⟨n0,n1,n2,n3,n4,nf⟩:=zA HNS.out.nod
 go_wp2
 go_region
 replace HNS:=LH (((HNS.out.put 0 (.int .i64 o.kind) _ _ _ _ _ (by omega) rfl).put 1 (.int .i64 o.size) _ _ _ _ _ (by omega) rfl).drew)
 clear o0 o1 o2 o3 o4 o5 o6 of n0 n1 n2 n3 n4 nf hD1
 generalize ((cw.setCell ⟨w.heap.size,0,none⟩ (.int .i64 o.kind)).setCell ⟨w.heap.size,1,none⟩ (.int .i64 o.size)).drew=cv at HNS ⊢
 obtain ⟨o0,o1,o2,o3,o4,o5,o6,of⟩:=zC HNS.out.obj
 have hs3:IntKind.i64.wrap (o.at_+o.data)=o.at_+o.data:=IntWalk.i64_in _ (by omega)
 go_wp2
 go_region
 replace HNS:=LH HNS.out.drew
 clear o0 o1 o2 o3 o4 o5 o6 of hs3
 generalize cv.drew=cu at HNS ⊢
 obtain ⟨o0,o1,o2,o3,o4,o5,o6,of⟩:=zC HNS.out.obj
 have hO1:w1.heap.size+1≤cu.heap.size:=(gE HNS.out.obj).1
 have hNO:w.heap.size<w1.heap.size:=HNS.out.lo.2.2.2
 have hNOn:w.heap.size≠w1.heap.size:=by omega
 go_wp2_with fail
 refine (zdA HNS.out.dec (HS0.out.grow HNS.out.base) o.seg o.at_ o.data da0 at0 (by omega)).mono ?_
 rintro e w3 ⟨A1,c1,rfl,hg,ho1⟩
 replace HNS:=LH (HNS.out.grow hg)
 have HW:=LH (zmA ho1 hO1)
 clear hg ho1 o0 o1 o2 o3 o4 o5 o6 of hO1
 obtain ⟨o0,o1,o2,o3,o4,o5,o6,of⟩:=zC HNS.out.obj
 obtain ⟨n0,n1,n2,n3,n4,nf⟩:=zA HNS.out.nod
 go_wp2_with fail
 replace HNS:=LH (HNS.out.put 2 (.slice A1 (wordsP wd o.seg o.at_ o.data.toNat).length c1) _ _ _ _ _ (by omega) rfl)
 replace HW:=LH (zaA HW.out (N:=w.heap.size) (by omega) 2 (.slice A1 (wordsP wd o.seg o.at_ o.data.toNat).length c1))
 generalize w3.setCell ⟨w.heap.size,2,none⟩ (.slice A1 (wordsP wd o.seg o.at_ o.data.toNat).length c1)=c3 at HNS HW ⊢
 clear o0 o1 o2 o3 o4 o5 o6 of n0 n1 n2 n3 n4 nf
 obtain ⟨o0,o1,o2,o3,o4,o5,o6,of⟩:=zC HNS.out.obj
 obtain ⟨n0,n1,n2,n3,n4,nf⟩:=zA HNS.out.nod
 have hO1:w1.heap.size+1≤c3.heap.size:=(gE HNS.out.obj).1
 refine (zYH HNS.out.dec (HS0.out.grow HNS.out.base) HSO.out.val o.seg o.at_ o.count ct0 at0 (by omega) (by omega)).mono ?_
 rintro e w4 ⟨A2,c2b,rfl,hg,ho2⟩
 replace HNS:=LH (HNS.out.grow hg)
 replace HW:=LH (zE HW.out hg (fun _ _ h=>h))
 have HV0:=LH (zmA ho2 hO1)
 clear hg ho2 o0 o1 o2 o3 o4 o5 o6 of n0 n1 n2 n3 n4 nf hO1
 obtain ⟨n0,n1,n2,n3,n4,nf⟩:=zA HNS.out.nod
 go_wp2
 replace HNS:=LH (HNS.out.put 3 (.slice A2 (bytesP wd o.seg o.at_ o.count.toNat).length c2b) _ _ _ _ _ (by omega) rfl)
 replace HW:=LH (zaA HW.out (N:=w.heap.size) (by omega) 3 (.slice A2 (bytesP wd o.seg o.at_ o.count.toNat).length c2b))
 have HV:=LH (zaA HV0.out (N:=w.heap.size) (by omega) 3 (.slice A2 (bytesP wd o.seg o.at_ o.count.toNat).length c2b))
 generalize w4.setCell ⟨w.heap.size,3,none⟩ (.slice A2 (bytesP wd o.seg o.at_ o.count.toNat).length c2b)=c2 at HNS HW HV ⊢
 have hn0:(if o.size=6 then o.count else o.ptrs).toNat=0:=by rw [HC.out];have:=Hc2.out.2.2.1;simp;omega
 clear n0 n1 n2 n3 n4 nf
 have hdt:o.data.toNat≤1000000:=hdt0
 have E:=LH (E0.out.trans (ztA (ws:=wordsP wd o.seg o.at_ o.data.toNat) (bs:=bytesP wd o.seg o.at_ o.count.toNat) (at0:=o.at_+o.data) (n:=0) (by rw [HC.out];rfl) (by rw [HC.out];rfl) (by rw [HC.out];rfl) hn0 rfl))
 clear hn0
 go_loopw [109] (fun v wr=>wr=c2∧v=.int .i64 0) (fun v _=>0)
 case atStart=>exact ⟨rfl,rfl⟩
 case round =>
  obtain ⟨rfl,rfl⟩:=hrel
  obtain ⟨n0,n1,n2,n3,n4,nf⟩:=zA HNS.out.nod
  have HNE:=LH (HNS.out.all (.int .i64 o.kind) (.int .i64 o.size) (.slice A1 (wordsP wd o.seg o.at_ o.data.toNat).length c1) (.slice A2 (bytesP wd o.seg o.at_ o.count.toNat).length c2b) (.slice none 0 0))
  go_wp2
  (try simp only [Exit.inBlock,Exit.then])
  obtain ⟨r0,r1,r2,r3,r4,rf⟩:=zA HNE.out.nod
  refine bodyPost_ret (v:=.tuple #[.agg #[.int .i64 o.kind,.int .i64 o.size,.slice A1 (wordsP wd o.seg o.at_ o.data.toNat).length c1,.slice A2 (bytesP wd o.seg o.at_ o.count.toNat).length c2b,.slice none 0 0],.int .u16 0]) ?_ rfl ((KL.begin (bs:=bytesP wd o.seg o.at_ o.count.toNat) (at0:=o.at_+o.data) (f:=(nodeP sz wd l o.seg)) HNS.out HW.out HV.out).post HNE.out (zb _ _ _ _ _) E.out (by rw [zj];omega) (by rw [zGA];omega) (by omega))
  rw [results_cell_tmp rfl];go_simp
theorem zhK {sz:List Int} {wd:Int→Int→Int×Int} (ho:SouOk sz wd) {l:Nat} (IH:Hid (NodeAt sz wd l)) (hll:l≤1000) (sv:Value) (W0:World) (D:Nat) (paid seg at_:Int) (w:World) (hS:Sou sv sz wd W0) (hD:Dec D sv paid w) (hD0:W0.heap.size≤D) (hg:Grow W0 w) (p0:0≤paid) (p1:paid≤8192) (hcase:(followP sz wd seg at_).1.size=5) (hkz:(followP sz wd seg at_).1.kind≠0) :
    Calls Tryz.prog 244 #[.pointer (some ⟨D,0,none⟩),.int .i64 seg,.int .i64 at_,.int .i64 (l+1:Nat)] w (NPost (nodeP sz wd (l+1) seg at_ paid) D sv w):=by
 obtain ⟨T,pv,fw,fs,r,rfl,-⟩:=hS.out
 have HSO:=LH ho
 have HS0:=LH hS
 have hg0:=(Keep.refl NoB w).alloc (.cells #[.int .i64 0,.int .i64 0,.slice none 0 0,.slice none 0 0,.slice none 0 0] 114)
 have HS:=LH (hS.grow (hg.grow hg0))
 have dc0:=(hD.grow hg0).c0
 have HD:=LH (And.intro hD (And.intro hD0 hg))
 have E0:Hid (nodeP sz wd (l+1) seg at_ paid=nodeS sz wd false (nodeP sz wd l) seg at_ paid):=LH rfl
 clear hS hD hD0 hg hg0 ho
 go_enter Tryz.func244,Tryz.ntmps244
 go_wp2_with fail
 refine (zZA HS.out HSO.out seg at_).mono ?_
 rintro e w1 ⟨rfl,hg1⟩
 have HO:=LH (zn HSO.out seg at_)
 unfold nodeS at E0
 generalize (followP sz wd seg at_).1=o at *
 generalize (followP sz wd seg at_).2=fe at *
 have HNS:=LH (zTB (o:=o) HD.out.1 HD.out.2.1 HD.out.2.2 hg1)
 clear hg1 dc0
 have HC:=LH hcase
 have HKZ:=LH hkz
 clear hcase hkz
 by_cases he:fe=0
 case neg =>
  have eb:(fe != 0)=true:=by simp [he]
  have E:=LH (E0.out.trans (if_neg he))
  clear he
  obtain ⟨n0,n1,n2,n3,n4,nf⟩:=zA HNS.out.nod
  have HNE:=LH (HNS.out.all (.int .i64 0) (.int .i64 0) (.slice none 0 0) (.slice none 0 0) (.slice none 0 0))
  go_wp2
  (try simp only [Exit.inBlock,Exit.then])
  obtain ⟨r0,r1,r2,r3,r4,rf⟩:=zA HNE.out.nod
  refine bodyPost_ret (v:=.tuple #[.agg #[.int .i64 0,.int .i64 0,.slice none 0 0,.slice none 0 0,.slice none 0 0],.int .u16 fe]) ?_ rfl (zg HNE.out (er:=fe) E.out)
  rw [results_cell_tmp rfl];go_simp
 subst he
 replace E0:=LH (E0.out.trans (if_pos (by simp)))
 replace E0:=LH (E0.out.trans (if_neg (by simp)))
 obtain ⟨o0,o1,o2,o3,o4,o5,o6,of⟩:=zC HNS.out.drew.obj
 have hD1:=HNS.out.drew.dec.c1
 have hDf:=zM 1 HNS.out.drew.dec
 have hDc0:=HNS.out.drew.dec.c0
 have how:=zv HO.out
 have hw0:=how.1
 have hw1:=how.2
 have HNP:=LH (HNS.out.drew)
 have hs1:IntKind.i64.wrap (1+obWords o)=1+obWords o:=IntWalk.i64_in _ (by omega)
 have hs2:IntKind.i64.wrap (paid+(1+obWords o))=paid+(1+obWords o):=IntWalk.i64_in _ (by omega)
 clear how
 go_wp2
 refine zD [0,1,2,3,4,5,6,7,8,9,10] [5,10] [3,4] [10] rfl (by kernel_rfl) ?_
 iterate 3
  refine ord_p ?_
 refine ord_r (y:=by intro w' hg;have q:=hg.cell hD1 (fun h=>h);go_simp;with_reducible rfl) (z:=?_)
 refine ord_r (y:=by intro w' hg;have q0:=hg.cell o0 (fun h=>h);have q1:=hg.cell o1 (fun h=>h);have q2:=hg.cell o2 (fun h=>h);have q3:=hg.cell o3 (fun h=>h);have q4:=hg.cell o4 (fun h=>h);have q5:=hg.cell o5 (fun h=>h);have q6:=hg.cell o6 (fun h=>h);go_simp;with_reducible rfl) (z:=?_)
 refine zG rfl rfl rfl rfl rfl Tryz.func264 rfl rfl [.agg #[.int .i64 o.kind,.int .i64 o.seg,.int .i64 o.at_,.int .i64 o.data,.int .i64 o.ptrs,.int .i64 o.size,.int .i64 o.count]] rfl ?_
 refine (zYA o _ HO.out.ok).mono ?_
 rintro e w2 ⟨rfl,hg2⟩
 refine ⟨_,rfl,fun _=>hg2,?_⟩
 have HNQ:=LH (HNP.out.grow hg2)
 have hD1':=HNQ.out.dec.c1
 have hDf':=zM 1 HNQ.out.dec
 clear hg2 o0 o1 o2 o3 o4 o5 o6 of hD1 hDf hDc0
 simp only [Act.put,pB,pC,pD]
 iterate 4
  refine ord_p ?_
 refine zK rfl rfl rfl rfl ?_ ?_ (fun h=>absurd (by simp) h) ?_
 rotate_left
 ·go_simp;with_reducible rfl
 refine zF ?_
 replace HNS:=LH (HNQ.out.pay (paid+(1+obWords o)))
 clear HNP HNQ hD1' hDf' hs1 hs2
 generalize w2.setCell ⟨D,1,none⟩ (.int .i64 (paid+(1+obWords o)))=cw at HNS ⊢
 obtain ⟨o0,o1,o2,o3,o4,o5,o6,of⟩:=zC HNS.out.obj
 have hl0:((l:Int)+1==0)=false:=beq_eq_false_iff_ne.2 (by omega)
 have hD1:=HNS.out.dec.c1
 by_cases hp:8192<paid+(1+obWords o)
 ·have E:=LH (E0.out.trans (if_pos hp))
  have eb:(o.kind != 0)=true:=by have:=HKZ.out;simp [this]
  obtain ⟨n0,n1,n2,n3,n4,nf⟩:=zA HNS.out.nod
  have HNE:=LH (HNS.out.all (.int .i64 0) (.int .i64 0) (.slice none 0 0) (.slice none 0 0) (.slice none 0 0))
  go_wp2
  (try simp only [Exit.inBlock,Exit.then])
  obtain ⟨r0,r1,r2,r3,r4,rf⟩:=zA HNE.out.nod
  refine bodyPost_ret (v:=.tuple #[.agg #[.int .i64 0,.int .i64 0,.slice none 0 0,.slice none 0 0,.slice none 0 0],.int .u16 22]) ?_ rfl (zg HNE.out (er:=22) E.out)
  rw [results_cell_tmp rfl];go_simp
 replace E0:=LH (E0.out.trans (if_neg hp))
 have hpp:paid+(1+obWords o)≤8192:=by omega
 clear hp
 have da0:0≤o.data:=HO.out.ok.d.1
 have da1:o.data≤65535:=HO.out.ok.d.2
 have at0:0≤o.at_:=HO.out.at0
 have pt0:0≤o.ptrs:=HO.out.ok.q.1
 have pt1:o.ptrs≤65535:=HO.out.ok.q.2
 have ct0:0≤o.count:=HO.out.ok.c.1
 have hcs:=HO.out.cases
 have hsz:=HC.out
 have hc2:o.kind=2∧o.data=0∧o.ptrs=0∧o.at_+o.count≤100000:=by
  rcases hcs with h | h | h
  ·rw [h] at hsz;simp [ob0] at hsz
  ·omega
  ·omega
 have at1:o.at_≤100000:=by omega
 have ct1:o.count≤100000:=by omega
 have hpt:o.ptrs≤0:=by omega
 have hdt0:o.data.toNat≤1000000:=by omega
 have Hc2:=LH hc2
 clear hc2
 have hz2:(o.size==2)=false:=by simp [hsz]
 have hz5:(o.size==5)=true:=by simp [hsz]
 have hz6:(o.size==6)=false:=by simp [hsz]
 have eb:(o.kind != 0)=true:=by have:=HKZ.out;simp [this]
 clear hcs hsz
 obtain ⟨n0,n1,n2,n3,n4,nf⟩:=zA HNS.out.nod
 go_wp2
 go_region
 replace HNS:=LH (((HNS.out.put 0 (.int .i64 o.kind) _ _ _ _ _ (by omega) rfl).put 1 (.int .i64 o.size) _ _ _ _ _ (by omega) rfl).drew)
 clear o0 o1 o2 o3 o4 o5 o6 of n0 n1 n2 n3 n4 nf hD1
 generalize ((cw.setCell ⟨w.heap.size,0,none⟩ (.int .i64 o.kind)).setCell ⟨w.heap.size,1,none⟩ (.int .i64 o.size)).drew=cv at HNS ⊢
 obtain ⟨o0,o1,o2,o3,o4,o5,o6,of⟩:=zC HNS.out.obj
 have hs3:IntKind.i64.wrap (o.at_+o.data)=o.at_+o.data:=IntWalk.i64_in _ (by omega)
 go_wp2
 go_region
 replace HNS:=LH HNS.out.drew
 clear o0 o1 o2 o3 o4 o5 o6 of hs3
 generalize cv.drew=cu at HNS ⊢
 obtain ⟨o0,o1,o2,o3,o4,o5,o6,of⟩:=zC HNS.out.obj
 have hO1:w1.heap.size+1≤cu.heap.size:=(gE HNS.out.obj).1
 have hNO:w.heap.size<w1.heap.size:=HNS.out.lo.2.2.2
 have hNOn:w.heap.size≠w1.heap.size:=by omega
 go_wp2_with fail
 refine (zdA HNS.out.dec (HS0.out.grow HNS.out.base) o.seg o.at_ o.data da0 at0 (by omega)).mono ?_
 rintro e w3 ⟨A1,c1,rfl,hg,ho1⟩
 replace HNS:=LH (HNS.out.grow hg)
 have HW:=LH (zmA ho1 hO1)
 clear hg ho1 o0 o1 o2 o3 o4 o5 o6 of hO1
 obtain ⟨o0,o1,o2,o3,o4,o5,o6,of⟩:=zC HNS.out.obj
 obtain ⟨n0,n1,n2,n3,n4,nf⟩:=zA HNS.out.nod
 go_wp2_with fail
 replace HNS:=LH (HNS.out.put 2 (.slice A1 (wordsP wd o.seg o.at_ o.data.toNat).length c1) _ _ _ _ _ (by omega) rfl)
 replace HW:=LH (zaA HW.out (N:=w.heap.size) (by omega) 2 (.slice A1 (wordsP wd o.seg o.at_ o.data.toNat).length c1))
 generalize w3.setCell ⟨w.heap.size,2,none⟩ (.slice A1 (wordsP wd o.seg o.at_ o.data.toNat).length c1)=c3 at HNS HW ⊢
 clear o0 o1 o2 o3 o4 o5 o6 of n0 n1 n2 n3 n4 nf
 obtain ⟨o0,o1,o2,o3,o4,o5,o6,of⟩:=zC HNS.out.obj
 obtain ⟨n0,n1,n2,n3,n4,nf⟩:=zA HNS.out.nod
 have hO1:w1.heap.size+1≤c3.heap.size:=(gE HNS.out.obj).1
 refine (zdA HNS.out.dec (HS0.out.grow HNS.out.base) o.seg o.at_ o.count ct0 at0 (by omega)).mono ?_
 rintro e w4 ⟨A2,c2b,rfl,hg,ho2⟩
 replace HNS:=LH (HNS.out.grow hg)
 have HW0:=LH (zmA ho2 hO1)
 clear hg ho2 HW o0 o1 o2 o3 o4 o5 o6 of n0 n1 n2 n3 n4 nf hO1
 obtain ⟨n0,n1,n2,n3,n4,nf⟩:=zA HNS.out.nod
 go_wp2
 replace HNS:=LH (HNS.out.put 2 (.slice A2 (wordsP wd o.seg o.at_ o.count.toNat).length c2b) _ _ _ _ _ (by omega) rfl)
 have HW:=LH (zaA HW0.out (N:=w.heap.size) (by omega) 2 (.slice A2 (wordsP wd o.seg o.at_ o.count.toNat).length c2b))
 generalize w4.setCell ⟨w.heap.size,2,none⟩ (.slice A2 (wordsP wd o.seg o.at_ o.count.toNat).length c2b)=c2 at HNS HW ⊢
 have HV:=LH (World.ownsRow_nil c2 (w1.heap.size+1) 5 1)
 have hn0:(if o.size=6 then o.count else o.ptrs).toNat=0:=by rw [HC.out];have:=Hc2.out.2.2.1;simp;omega
 clear n0 n1 n2 n3 n4 nf
 have E:=LH (E0.out.trans (ztA (ws:=wordsP wd o.seg o.at_ o.count.toNat) (bs:=[]) (at0:=o.at_+o.data) (n:=0) (by rw [HC.out];rfl) (by rw [HC.out];rfl) (by rw [HC.out];rfl) hn0 rfl))
 clear hn0
 go_loopw [109] (fun v wr=>wr=c2∧v=.int .i64 0) (fun v _=>0)
 case atStart=>exact ⟨rfl,rfl⟩
 case round =>
  obtain ⟨rfl,rfl⟩:=hrel
  obtain ⟨n0,n1,n2,n3,n4,nf⟩:=zA HNS.out.nod
  have HNE:=LH (HNS.out.all (.int .i64 o.kind) (.int .i64 o.size) (.slice A2 (wordsP wd o.seg o.at_ o.count.toNat).length c2b) (.slice none 0 0) (.slice none 0 0))
  go_wp2
  (try simp only [Exit.inBlock,Exit.then])
  obtain ⟨r0,r1,r2,r3,r4,rf⟩:=zA HNE.out.nod
  refine bodyPost_ret (v:=.tuple #[.agg #[.int .i64 o.kind,.int .i64 o.size,.slice A2 (wordsP wd o.seg o.at_ o.count.toNat).length c2b,.slice none 0 0,.slice none 0 0],.int .u16 0]) ?_ rfl ((KL.begin (bs:=[]) (at0:=o.at_+o.data) (f:=(nodeP sz wd l o.seg)) HNS.out HW.out HV.out).post HNE.out (zb _ _ _ _ _) E.out (by rw [zj];omega) (by simp) (by omega))
  rw [results_cell_tmp rfl];go_simp
end Go.Proofs.YtfkcpaahdlkcdaaGreat

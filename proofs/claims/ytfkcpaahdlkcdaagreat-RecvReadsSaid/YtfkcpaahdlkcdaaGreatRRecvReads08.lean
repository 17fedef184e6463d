import Derived.Test.YtfkcpaahdlkcdaaGreatRRecvReads07
set_option linter.unusedSimpArgs false
set_option linter.unusedVariables false
set_option maxRecDepth 100000
set_option maxHeartbeats 16000000
namespace Go.Proofs.YtfkcpaahdlkcdaaGreat
open Go.RowKit
theorem zbL {sz:List Int} {wd:Int→Int→Int×Int} (ho:SouOk sz wd) {l:Nat} (IH:Hid (NodeAt sz wd l)) (hll:l≤1000) (sv:Value) (W0:World) (D:Nat) (paid seg at_:Int) (w:World) (hS:Sou sv sz wd W0) (hD:Dec D sv paid w) (hD0:W0.heap.size≤D) (hg:Grow W0 w) (p0:0≤paid) (p1:paid≤8192) (hcase:(followP sz wd seg at_).1.size=0) (hkz:(followP sz wd seg at_).1.kind≠0) :
    Calls Tryz.prog 244 #[.pointer (some ⟨D,0,none⟩),.int .i64 seg,.int .i64 at_,.int .i64 (l+1:Nat)] w (NPost (nodeP sz wd (l+1) seg at_ paid) D sv w):=by
 obtain ⟨T,pv,fw,fs,r,rfl,-⟩:=hS.out
 have HSO:=LH ho
 have HS0:=LH hS
 have hg0:=(Keep.refl NoB w).alloc (.cells qA 114)
 have HS:=LH (hS.grow (hg.grow hg0))
 have dc0:=(hD.grow hg0).c0
 have HD:=LH (And.intro hD (And.intro hD0 hg))
 have E0:Hid (nodeP sz wd (l+1) seg at_ paid=nodeS sz wd false (nodeP sz wd l) seg at_ paid):=LH rfl
 clear hS hD hD0 hg hg0 ho
 go_enter Tryz.func244,Tryz.ntmps244
 go_wp2_with fail
 refine (zy HS.out HSO.out seg at_).mono ?_
 rintro e w1 ⟨rfl,hg1⟩
 have HO:=LH (zd HSO.out seg at_)
 unfold nodeS at E0
 generalize (followP sz wd seg at_).1=o at *
 generalize (followP sz wd seg at_).2=fe at *
 have HNS:=LH (zWB (o:=o) HD.out.1 HD.out.2.1 HD.out.2.2 hg1)
 clear hg1 dc0
 have HC:=LH hcase
 have HKZ:=LH hkz
 clear hcase hkz
 by_cases he:fe=0
 case neg =>
  have eb:(fe != 0)=true:=by simp [he]
  have E:=LH (E0.out.trans (if_neg he))
  clear he
  obtain ⟨n0,n1,n2,n3,n4,nf⟩:=zA HNS.out.nod
  have HNE:=LH (HNS.out.all (.int .i64 0) (.int .i64 0) (.slice none 0 0) (.slice none 0 0) (.slice none 0 0))
  go_wp2
  (try simp only [Exit.inBlock,Exit.then])
  obtain ⟨r0,r1,r2,r3,r4,rf⟩:=zA HNE.out.nod
  refine bodyPost_ret (v:=.tuple #[.agg qA,.int .u16 fe]) ?_ rfl (zk HNE.out (er:=fe) E.out)
  rw [results_cell_tmp rfl];go_simp
 subst he
 replace E0:=LH (E0.out.trans (if_pos (by simp)))
 replace E0:=LH (E0.out.trans (if_neg (by simp)))
 obtain ⟨o0,o1,o2,o3,o4,o5,o6,of⟩:=zC HNS.out.drew.obj
 have hD1:=HNS.out.drew.dec.c1
 have hDf:=zN 1 HNS.out.drew.dec
 have hDc0:=HNS.out.drew.dec.c0
 have how:=za HO.out
 have hw0:=how.1
 have hw1:=how.2
 have HNP:=LH (HNS.out.drew)
 have hs1:IntKind.i64.wrap (1+obWords o)=1+obWords o:=IntWalk.i64_in _ (by omega)
 have hs2:IntKind.i64.wrap (paid+(1+obWords o))=paid+(1+obWords o):=IntWalk.i64_in _ (by omega)
 clear how
 go_wp2
 refine zE [0,1,2,3,4,5,6,7,8,9,10] [5,10] [3,4] [10] rfl (by kernel_rfl) ?_
 iterate 3
  refine ord_p ?_
 refine oc1 hD1 ?_
 refine oc7 o0 o1 o2 o3 o4 o5 o6 ?_
 refine zG rfl rfl rfl rfl rfl Tryz.func264 rfl rfl [.agg o] rfl ?_
 refine (zSA o _ HO.out.ok).mono ?_
 rintro e w2 ⟨rfl,hg2⟩
 refine ⟨_,rfl,fun _=>hg2,?_⟩
 have HNQ:=LH (HNP.out.grow hg2)
 have hD1':=HNQ.out.dec.c1
 have hDf':=zN 1 HNQ.out.dec
 clear hg2 o0 o1 o2 o3 o4 o5 o6 of hD1 hDf hDc0
 simp only [Act.put,pB,pC,pD]
 iterate 4
  refine ord_p ?_
 refine zJ rfl rfl rfl rfl ?_ ?_ (fun h=>absurd (by simp) h) ?_
 rotate_left
 ·go_simp;with_reducible rfl
 refine zD ?_
 replace HNS:=LH (HNQ.out.pay (paid+(1+obWords o)))
 clear HNP HNQ hD1' hDf' hs1 hs2
 generalize w2.setCell ⟨D,1,none⟩ (.int .i64 (paid+(1+obWords o)))=cw at HNS ⊢
 obtain ⟨o0,o1,o2,o3,o4,o5,o6,of⟩:=zC HNS.out.obj
 have hl0:((l:Int)+1==0)=false:=beq_eq_false_iff_ne.2 (by omega)
 have hD1:=HNS.out.dec.c1
 by_cases hp:8192<paid+(1+obWords o)
 ·have E:=LH (E0.out.trans (if_pos hp))
  have eb:(o.kind != 0)=true:=by have:=HKZ.out;simp [this]
  obtain ⟨n0,n1,n2,n3,n4,nf⟩:=zA HNS.out.nod
  have HNE:=LH (HNS.out.all (.int .i64 0) (.int .i64 0) (.slice none 0 0) (.slice none 0 0) (.slice none 0 0))
  go_wp2
  (try simp only [Exit.inBlock,Exit.then])
  obtain ⟨r0,r1,r2,r3,r4,rf⟩:=zA HNE.out.nod
  refine bodyPost_ret (v:=.tuple #[.agg qA,.int .u16 22]) ?_ rfl (zk HNE.out (er:=22) E.out)
  rw [results_cell_tmp rfl];go_simp
 replace E0:=LH (E0.out.trans (if_neg hp))
 have hpp:paid+(1+obWords o)≤8192:=by omega
 clear hp
 have da0:0≤o.data:=HO.out.ok.d.1
 have da1:o.data≤65535:=HO.out.ok.d.2
 have at0:0≤o.at_:=HO.out.at0
 have pt0:0≤o.ptrs:=HO.out.ok.q.1
 have pt1:o.ptrs≤65535:=HO.out.ok.q.2
 have ct0:0≤o.count:=HO.out.ok.c.1
 have hcs:=HO.out.cases
 have hsz:=HC.out
 have at1:o.at_≤100000:=by
  rcases hcs with h | h | h
  ·rw [h];simp [ob0]
  ·omega
  ·omega
 have hz2:(o.size==2)=false:=by simp [hsz]
 have hz5:(o.size==5)=false:=by simp [hsz]
 have hz6:(o.size==6)=false:=by simp [hsz]
 have eb:(o.kind != 0)=true:=by have:=HKZ.out;simp [this]
 clear hcs hsz
 obtain ⟨n0,n1,n2,n3,n4,nf⟩:=zA HNS.out.nod
 go_wp2
 go_region
 replace HNS:=LH (((HNS.out.put 0 (.int .i64 o.kind) _ _ _ _ _ (by omega) rfl).put 1 (.int .i64 o.size) _ _ _ _ _ (by omega) rfl).drew)
 clear o0 o1 o2 o3 o4 o5 o6 of n0 n1 n2 n3 n4 nf hD1
 generalize ((cw.setCell ⟨w.heap.size,0,none⟩ (.int .i64 o.kind)).setCell ⟨w.heap.size,1,none⟩ (.int .i64 o.size)).drew=cv at HNS ⊢
 obtain ⟨o0,o1,o2,o3,o4,o5,o6,of⟩:=zC HNS.out.obj
 have hs3:IntKind.i64.wrap (o.at_+o.data)=o.at_+o.data:=IntWalk.i64_in _ (by omega)
 go_wp2
 go_region
 replace HNS:=LH HNS.out.drew
 clear o0 o1 o2 o3 o4 o5 o6 of hs3
 generalize cv.drew=cu at HNS ⊢
 obtain ⟨o0,o1,o2,o3,o4,o5,o6,of⟩:=zC HNS.out.obj
 have hO1:w1.heap.size+1≤cu.heap.size:=(gE HNS.out.obj).1
 have hNO:w.heap.size<w1.heap.size:=HNS.out.lo.2.2.2
 have hNOn:w.heap.size≠w1.heap.size:=by omega
 go_wp2_with fail
 refine (zgA HNS.out.dec (HS0.out.grow HNS.out.base) o.seg o.at_ o.data da0 at0 (by omega)).mono ?_
 rintro e w3 ⟨A1,c1,rfl,hg,ho1⟩
 replace HNS:=LH (HNS.out.grow hg)
 have HW:=LH (ztA ho1 hO1)
 clear hg ho1 o0 o1 o2 o3 o4 o5 o6 of hO1
 obtain ⟨o0,o1,o2,o3,o4,o5,o6,of⟩:=zC HNS.out.obj
 obtain ⟨n0,n1,n2,n3,n4,nf⟩:=zA HNS.out.nod
 go_wp2
 replace HNS:=LH (HNS.out.put 2 (.slice A1 (wordsP wd o.seg o.at_ o.data.toNat).length c1) _ _ _ _ _ (by omega) rfl)
 replace HW:=LH (zeA HW.out (N:=w.heap.size) (by omega) 2 (.slice A1 (wordsP wd o.seg o.at_ o.data.toNat).length c1))
 generalize w3.setCell ⟨w.heap.size,2,none⟩ (.slice A1 (wordsP wd o.seg o.at_ o.data.toNat).length c1)=c2 at HNS HW ⊢
 have HV:=LH (World.ownsRow_nil c2 (w1.heap.size+1) 5 1)
 clear o0 o1 o2 o3 o4 o5 o6 of n0 n1 n2 n3 n4 nf
 have HK0:=LH (KL.begin (bs:=[]) (at0:=o.at_+o.data) (f:=nodeP sz wd l o.seg) HNS.out HW.out HV.out)
 clear HNS HW HV
 go_loopw [109] (fun v wr=>∃ (k:Nat),k≤(o.ptrs).toNat∧v=.int .i64 k∧∃ A4 c4 rows,Hid (KL W0 w D w.heap.size w1.heap.size (.iface T pv) o (nodeP sz wd l o.seg) (o.at_+o.data) (paid+(1+obWords o)) (wordsP wd o.seg o.at_ o.data.toNat) ([]) (.slice A1 (wordsP wd o.seg o.at_ o.data.toNat).length c1) (.slice none 0 0) k (.slice A4 k c4) rows wr)) (fun v _=>(o.ptrs).toNat-(intOf v).toNat)
 case atStart=>exact ⟨0,by omega,rfl,none,0,[],HK0⟩
 case round =>
  clear HK0
  obtain ⟨k,hk,rfl,A4,c4,rows,HK⟩:=hrel
  obtain ⟨o0,o1,o2,o3,o4,o5,o6,of⟩:=zC HK.out.ns.obj
  obtain ⟨n0,n1,n2,n3,n4,nf⟩:=zA HK.out.ns.nod
  by_cases hlt:k<(o.ptrs).toNat
  ·have hlt':(k:Int)<o.ptrs:=by omega
   have hkk:(k:Int)≤200000:=by omega
   have hw:IntKind.i64.wrap ((k:Int)+1)=(k:Int)+1:=IntWalk.i64_in _ (by omega)
   have hl1:IntKind.i64.wrap ((l:Int)+1-1)=l:=by rw [show (l:Int)+1-1=l from by omega];exact IntWalk.i64_in _ (by omega)
   have hpd:=zPB (f:=nodeP sz wd l o.seg) (at0:=o.at_+o.data) (zjB HSO.out l o.seg) (show 0≤paid+(1+obWords o) by omega) hpp k HK.out.ok
   have Hpd:=LH hpd
   clear hpd
   go_wp2_with fail
   refine (IH.out (.iface T pv) W0 D (kidsK (nodeP sz wd l o.seg) (o.at_+o.data) (paid+(1+obWords o)) k).2.2 o.seg (o.at_+o.data+k) wr HS0.out HK.out.ns.dec HD.out.2.1 HK.out.ns.base Hpd.out.1 Hpd.out.2).mono ?_
   rintro e w4 ⟨xw,xb,xk,rfl,hdec,hkeep,hfoot,htrb⟩
   have Hsu:Hid (kidsK (nodeP sz wd l o.seg) (o.at_+o.data) (paid+(1+obWords o)) (k+1)=if (kidsK (nodeP sz wd l o.seg) (o.at_+o.data) (paid+(1+obWords o)) k).2.1=0 then (if (nodeP sz wd l o.seg (o.at_+o.data+k) (kidsK (nodeP sz wd l o.seg) (o.at_+o.data) (paid+(1+obWords o)) k).2.2).2.1=0 then ((kidsK (nodeP sz wd l o.seg) (o.at_+o.data) (paid+(1+obWords o)) k).1++[(nodeP sz wd l o.seg (o.at_+o.data+k) (kidsK (nodeP sz wd l o.seg) (o.at_+o.data) (paid+(1+obWords o)) k).2.2).1],0,(nodeP sz wd l o.seg (o.at_+o.data+k) (kidsK (nodeP sz wd l o.seg) (o.at_+o.data) (paid+(1+obWords o)) k).2.2).2.2) else ([],(nodeP sz wd l o.seg (o.at_+o.data+k) (kidsK (nodeP sz wd l o.seg) (o.at_+o.data) (paid+(1+obWords o)) k).2.2).2.1,(nodeP sz wd l o.seg (o.at_+o.data+k) (kidsK (nodeP sz wd l o.seg) (o.at_+o.data) (paid+(1+obWords o)) k).2.2).2.2)) else kidsK (nodeP sz wd l o.seg) (o.at_+o.data) (paid+(1+obWords o)) k):=LH rfl
   have Hok:=LH HK.out.ok
   obtain ⟨B1,d1,B2,d2,B3,d3,rfl,rfl,rfl⟩:=hfoot.now.parts
   have HM:=LH (HK.out.called hdec hkeep hfoot)
   have Htb:=LH htrb
   clear hdec hkeep hfoot htrb o0 o1 o2 o3 o4 o5 o6 of n0 n1 n2 n3 n4 nf
   generalize nodeP sz wd l o.seg (o.at_+o.data+k) (kidsK (nodeP sz wd l o.seg) (o.at_+o.data) (paid+(1+obWords o)) k).2.2=r at *
   have hga:=(Keep.refl NoB w4).alloc (.cells #[r.1.kind,r.1.size,.slice B1 r.1.ws.length d1,.slice B2 r.1.bs.length d2,.slice B3 r.1.kids.length d3] 114)
   have hna:=heap_alloc_new w4 (.cells #[r.1.kind,r.1.size,.slice B1 r.1.ws.length d1,.slice B2 r.1.bs.length d2,.slice B3 r.1.kids.length d3] 114)
   replace HM:=LH (HM.out.grow hga)
   have HNA:=LH hna
   clear hga hna
   obtain ⟨t0,t1,t2,t3,t4,tf⟩:=zA HNA.out
   obtain ⟨n0,n1,n2,n3,n4,nf⟩:=zA HM.out.ns.nod
   by_cases her:r.2.1=0
   case neg =>
    have eb:(r.2.1 != 0)=true:=by simp [her]
    have e1:kidsK (nodeP sz wd l o.seg) (o.at_+o.data) (paid+(1+obWords o)) (k+1)=([],r.2.1,r.2.2):=by rw [Hsu.out,if_pos Hok.out,if_neg her]
    have e2:kidsK (nodeP sz wd l o.seg) (o.at_+o.data) (paid+(1+obWords o)) (o.ptrs).toNat=([],r.2.1,r.2.2):=(zqC _ _ _ (k:=k+1) (by rw [e1];exact her) (by omega)).trans e1
    have E:Hid (nodeP sz wd (l+1) seg at_ paid=(tr0,r.2.1,r.2.2)):=LH (E0.out.trans ((zzD (at0:=o.at_+o.data) (n:=(o.ptrs).toNat) (by rw [HC.out];rfl) (by rw [HC.out];rfl) (by rw [e2];exact her)).trans (by rw [e2])))
    have HNS:=LH HM.out.ns
    clear her e1 e2 n0 n1 n2 n3 n4 nf
    obtain ⟨n0,n1,n2,n3,n4,nf⟩:=zA HNS.out.nod
    have HNE:=LH (HNS.out.all (.int .i64 0) (.int .i64 0) (.slice none 0 0) (.slice none 0 0) (.slice none 0 0))
    go_wp2
    (try simp only [Exit.inBlock,Exit.then])
    obtain ⟨r0,r1,r2,r3,r4,rf⟩:=zA HNE.out.nod
    refine bodyPost_ret (v:=.tuple #[.agg qA,.int .u16 r.2.1]) ?_ rfl (zk HNE.out (er:=r.2.1) E.out)
    rw [results_cell_tmp rfl];go_simp
   have eb:(r.2.1 != 0)=false:=by simp [her]
   have e1:kidsK (nodeP sz wd l o.seg) (o.at_+o.data) (paid+(1+obWords o)) (k+1)=((kidsK (nodeP sz wd l o.seg) (o.at_+o.data) (paid+(1+obWords o)) k).1++[r.1],0,r.2.2):=by rw [Hsu.out,if_pos Hok.out,if_pos her]
   have He1:=LH e1
   clear e1 her
   have HSRC:Hid (((w4.alloc (.cells #[r.1.kind,r.1.size,.slice B1 r.1.ws.length d1,.slice B2 r.1.bs.length d2,.slice B3 r.1.kids.length d3] 114)).alloc (.cells #[r.1.kind,r.1.size,.slice B1 r.1.ws.length d1,.slice B2 r.1.bs.length d2,.slice B3 r.1.kids.length d3] 114)).heap[w4.heap.size+1]? = some (.cells #[r.1.kind,r.1.size,.slice B1 r.1.ws.length d1,.slice B2 r.1.bs.length d2,.slice B3 r.1.kids.length d3] 114)):=LH (by have:=heap_alloc_new (w4.alloc (.cells #[r.1.kind,r.1.size,.slice B1 r.1.ws.length d1,.slice B2 r.1.bs.length d2,.slice B3 r.1.kids.length d3] 114)) (.cells #[r.1.kind,r.1.size,.slice B1 r.1.ws.length d1,.slice B2 r.1.bs.length d2,.slice B3 r.1.kids.length d3] 114);simpa using this)
   have HSZ:Hid (w1.heap.size+1≤((w4.alloc (.cells #[r.1.kind,r.1.size,.slice B1 r.1.ws.length d1,.slice B2 r.1.bs.length d2,.slice B3 r.1.kids.length d3] 114)).alloc (.cells #[r.1.kind,r.1.size,.slice B1 r.1.ws.length d1,.slice B2 r.1.bs.length d2,.slice B3 r.1.kids.length d3] 114)).heap.size):=LH (by have:=(gE HM.out.ns.obj).1;simp at this ⊢;omega)
   go_wp2_with (at_builtin;refine zL _ rfl _ _ 112 112 rfl (w1.heap.size+1) 114 (.agg qA) 5 88 zv zZA rfl (.slice A4 k c4) k (kcs rows) rfl (.slice (some ⟨w4.heap.size+1,0,none⟩) 1 1) 1 [.int .i64 r.1.kind,.int .i64 r.1.size,.slice B1 r.1.ws.length d1,.slice B2 r.1.bs.length d2,.slice B3 r.1.kids.length d3] rfl ?_ (by exact zF HM.out.own ((Keep.refl NoB _).alloc _) (fun _ _ h=>h)) (by exact Src.ofSlice _ zv ⟨w4.heap.size+1,0,none⟩ 1 1 _ rfl (World.news_of_block (cs:=#[r.1.kind,r.1.size,.slice B1 r.1.ws.length d1,.slice B2 r.1.bs.length d2,.slice B3 r.1.kids.length d3]) (t:=114) (fr:=(0,0)) (by exact HSRC.out)) (by simp [Value.oneCell'])) (by simp only [maxLen];omega) (by omega) (by exact HSZ.out);intro v5 w5 hap;refine Hid.out ?_)
   refine LH ?_
   replace HM:=LH (HM.out.grow ((Keep.refl NoB _).alloc (.cells #[r.1.kind,r.1.size,.slice B1 r.1.ws.length d1,.slice B2 r.1.bs.length d2,.slice B3 r.1.kids.length d3] 114)))
   rw [show r.2.2=(kidsK (nodeP sz wd l o.seg) (o.at_+o.data) (paid+(1+obWords o)) (k+1)).2.2 from by rw [He1.out]] at HM
   have hfin:=HM.out.appended hap (by rw [He1.out]) (by rw [He1.out,List.map_append,HK.out.kids];rfl) HK.out.len (fun x hx=>by
    rcases List.mem_append.1 hx with e | e
    ·exact HK.out.trb x e
    ·rw [List.mem_singleton.1 e];exact Htb.out)
   obtain ⟨A6,c6,rfl,_⟩:=zK hap.own
   have HF:=LH hfin.1
   clear n0 n1 n2 n3 n4 nf t0 t1 t2 t3 t4 tf hap
   obtain ⟨n0,n1,n2,n3,n4,nf⟩:=zA hfin.2.nod
   clear hfin
   go_wp2
   go_roundw
   case rel=>exact ⟨k+1,by omega,by go_num,A6,c6,_,HF⟩
   case measure=>simp [intOf];omega
  ·obtain rfl:k=(o.ptrs).toNat:=by omega
   have hlt':¬ (((o.ptrs).toNat:Int)<o.ptrs):=by omega
   have hN:(o.ptrs).toNat≤1000000:=by omega
   have E:Hid (nodeP sz wd (l+1) seg at_ paid=(.mk o.kind o.size (wordsP wd o.seg o.at_ o.data.toNat) ([]) (kidsK (nodeP sz wd l o.seg) (o.at_+o.data) (paid+(1+obWords o)) (o.ptrs).toNat).1,0,(kidsK (nodeP sz wd l o.seg) (o.at_+o.data) (paid+(1+obWords o)) (o.ptrs).toNat).2.2)):=LH (E0.out.trans (zzA (by rw [HC.out];rfl) (by rw [HC.out];rfl) (by rw [HC.out];rfl) (by rw [HC.out];rfl) HK.out.ok))
   have HNE:=LH (HK.out.ns.all (.int .i64 o.kind) (.int .i64 o.size) (.slice A1 (wordsP wd o.seg o.at_ o.data.toNat).length c1) (.slice none 0 0) (.slice A4 (o.ptrs).toNat c4))
   go_wp2
   (try simp only [Exit.inBlock,Exit.then])
   obtain ⟨r0,r1,r2,r3,r4,rf⟩:=zA HNE.out.nod
   refine bodyPost_ret (v:=.tuple #[.agg #[o.kind,o.size,.slice A1 (wordsP wd o.seg o.at_ o.data.toNat).length c1,qI,.slice A4 (o.ptrs).toNat c4],.int .u16 0]) ?_ rfl (HK.out.post HNE.out (zb _ _ _ _ _) E.out (by rw [zm];omega) (by first | simp | (rw [zGA];omega)) (by omega))
   rw [results_cell_tmp rfl];go_simp
end Go.Proofs.YtfkcpaahdlkcdaaGreat
namespace Go.Proofs.YtfkcpaahdlkcdaaGreat
open Go.RowKit Go.Shelf
attribute [local go_sem] Oper.semAt_some
abbrev U64:={ x:Int // 0≤x∧x≤18446744073709551615 }
def u64z:U64:=⟨0,by omega,by omega⟩
def upto {α:Type} (f:Nat→α) (k:Nat):List α:=(List.range k).map f
theorem zaA {α:Type} (f:Nat→α) (k:Nat):upto f (k+1)=upto f k++[f k]:=by simp [upto,List.range_succ]
theorem znA {α:Type} (f:Nat→α) (k:Nat):(upto f k).length=k:=by simp [upto]
def pos (a:List (List Int)) (i j:Nat):Nat:=(a.take i).flatten.length+j
theorem zTK {a:List (List Int)} {i:Nat} (h:i<a.length):pos a i a[i].length=pos a (i+1) 0:=by
 unfold pos
 rw [List.take_succ_eq_append_getElem h,List.flatten_append,List.length_append]
 simp only [List.flatten_cons,List.flatten_nil,List.append_nil,Nat.add_zero]
theorem zfL (a:List (List Int)):pos a a.length 0=a.flatten.length:=by simp [pos]
theorem zSD {a:List (List Int)} {i j:Nat} (h:i<a.length) (hj:j<a[i].length):a.flatten[pos a i j]? = some a[i][j]:=by
 have e:a.flatten=(a.take i).flatten++(a[i]++(a.drop (i+1)).flatten):=by
  rw [← List.flatten_cons,← List.drop_eq_getElem_cons h,← List.flatten_append,List.take_append_drop]
 unfold pos
 rw [e,List.getElem?_append_right (by omega),show (a.take i).flatten.length+j-(a.take i).flatten.length=j from by omega,List.getElem?_append_left hj,List.getElem?_eq_getElem hj]
def wat (l:List Int) (k:Nat):U64:=if h:0≤l[k]?.getD 0∧l[k]?.getD 0≤18446744073709551615 then ⟨l[k]?.getD 0,h⟩ else u64z
theorem zgL {a:List (List Int)} (ho:OkA a) {i j:Nat} (h:i<a.length) (hj:j<a[i].length):(wat a.flatten (pos a i j)).1=a[i][j]:=by
 have hb:=ho.nums _ (List.getElem_mem h) _ (List.getElem_mem hj)
 have he:a.flatten[pos a i j]?.getD 0=a[i][j]:=by rw [zSD h hj];rfl
 unfold wat
 split
 ·exact he
 ·rename_i hc
  rw [he] at hc
  exact absurd hb hc
theorem zFJ {a:List (List Int)} (ho:OkA a) (hf:a.flatten.length≤1000000) {i j:Nat} (h:i<a.length) (hj:j<a[i].length):pos a i j<1000000:=by
 have:=(List.getElem?_eq_some_iff.1 (zSD h hj)).1
 omega
theorem zGJ (F:Fence) (n:Nat) (h7:F.fn 247) (hro:F.round=none) (hn:1≤n) (l Bs:Nat) (a:List (List Int)) (ho:OkA a) (hfl:a.flatten.length≤1000000) (A:Option Addr) (c:Nat) (w0:World) (hR:RowsR .u64 a (.slice A a.length c) w0) (J Jx:List (Nat×U64)→World→Prop)
    (hY:∀ pre x W,J pre W→pre.length<a.flatten.length→YieldAt F (n-1) Tryz.prog l #[.int .i64 (x.1:Int),.int .u64 x.2.1] W fun e W' =>
     (e=.returned (.bool true)∧J (pre++[x]) W'∧Below w0.heap.size W W')∨(e=.returned (.bool false)∧Jx (pre++[x]) W'))
    (W:World) (hW:Below w0.heap.size w0 W) (hBs:W.cell? ⟨Bs,0,none⟩=some (.slice A a.length c)) (h0:J [] W) :
    CallsIn F n Tryz.prog 247 #[.func (.yield l) #[] #[],.pointer (some ⟨Bs,0,none⟩)] W fun e W'=>(∃ v,e=.returned v) ∧
     ((∃ ys,ys=upto (fun k=>(k,wat a.flatten k)) a.flatten.length∧J ys W')∨(∃ pre,(∃ k,k≤a.flatten.length∧pre=upto (fun k=>(k,wat a.flatten k)) k)∧Jx pre W')):=by
 refine callsIn_of_wp Tryz.func247 rfl h7 ?_ hro
 simp only [Tryz.ntmps247,List.size_toArray,List.length_cons,List.length_nil,Nat.reduceAdd,Nat.reduceSub,Array.replicate_succ,Array.replicate_zero,List.push_toArray,List.append_toArray,List.nil_append,List.cons_append]
 gi_wp2
 gi_loopw [3,10] (fun p q wr=>∃ i:Nat,i≤a.length∧q=.int .i64 i∧p=.int .i64 (pos a i 0)∧Hid (J (upto (fun k=>(k,wat a.flatten k)) (pos a i 0)) wr∧Below w0.heap.size w0 wr)) (fun _ q _=>a.length-(intOf q).toNat)
 case atStart=>exact ⟨0,Nat.zero_le _,rfl,by simp [pos],h0,hW⟩
 case round =>
  obtain ⟨i,hi,rfl,rfl,HJ⟩:=hrel
  by_cases hlt:i<a.length
  ·obtain ⟨ad,A',c',rfl,q0,hs⟩:=(hR.grow (Keep.of_below HJ.out.2)).at_ i hlt
   have hlt':(i:Int)<a.length:=by omega
   have hw:IntKind.i64.wrap ((i:Int)+1)=(i:Int)+1:=IntWalk.i64_in _ (by have:=ho.segs;omega)
   have hsl:∀ u,Below w0.heap.size w0 u→SliceR 1 (.slice A' a[i].length c') a[i].length (a[i].map (Value.int .u64)) u:=fun u hu=>by
    obtain ⟨ad4,A4,c4,e4,q4,hs4⟩:=hR.at_ i hlt
    injection e4 with e4
    subst e4
    have:=(Keep.of_below HJ.out.2).cell q4 (fun h=>h)
    rw [q0] at this
    injection this with this
    injection this with x1 x2 x3
    subst x1
    subst x3
    exact hs4.grow (Keep.of_below hu)
   have hseg:=ho.words _ (List.getElem_mem hlt)
   have Hpn:=LH (zTK hlt)
   have Hsl:=LH hsl
   clear hs hsl
   gi_wp2
   obtain ⟨wo,rfl⟩:∃ wo:World,wo=wr:=⟨_,rfl⟩
   clear q0
   gi_loopw [3,16] (fun p q wr=>∃ j:Nat,j≤a[i].length∧q=.int .i64 j∧p=.int .i64 (pos a i j)∧Hid (J (upto (fun k=>(k,wat a.flatten k)) (pos a i j)) wr∧Below w0.heap.size w0 wr)) (fun _ q _=>a[i].length-(intOf q).toNat)
   case atStart=>exact ⟨0,Nat.zero_le _,rfl,rfl,HJ⟩
   case round =>
    clear HJ
    obtain ⟨j,hj,rfl,rfl,HJ⟩:=hrel
    by_cases hjl:j<a[i].length
    ·have hjl':(j:Int)<a[i].length:=by omega
     have hwj:IntKind.i64.wrap ((j:Int)+1)=(j:Int)+1:=IntWalk.i64_in _ (by omega)
     have hwp:IntKind.i64.wrap ((pos a i j:Nat)+1:Int)=(pos a i j:Nat)+1:=IntWalk.i64_in _ (by have:=zFJ ho hfl hlt hjl;omega)
     have hs2:=Hsl.out wr HJ.out.2
     obtain ⟨ad2,rfl,q1⟩:=SliceR.int_at hs2 j hjl
     have hlp:(upto (fun k=>(k,wat a.flatten k)) (pos a i j)).length<a.flatten.length:=by
      rw [znA]
      have:=zSD hlt hjl
      exact (List.getElem?_eq_some_iff.1 this).1
     obtain ⟨fn,tmps,assign,body,hy,hRR⟩:=hY _ (pos a i j,wat a.flatten (pos a i j)) wr HJ.out.1 hlp
     dsimp only at hy
     rw [zgL ho hlt hjl] at hy
     have HRR:=LH hRR
     clear hs2 hlp hRR
     gi_wp2
     refine HRR.out.mono ?_
     rintro e W3 (⟨rfl,hJ3,hk3⟩ | ⟨rfl,hJx3⟩)
     ·have HJ3:Hid (J (upto (fun k=>(k,wat a.flatten k)) (pos a i (j+1))) W3∧Below w0.heap.size w0 W3):=LH ⟨by rw [show pos a i (j+1)=pos a i j+1 from rfl,zaA];exact hJ3,HJ.out.2.trans hk3⟩
      clear hJ3 hk3
      gi_wp2
      go_roundw
      case rel=>exact ⟨j+1,by omega,by go_num,by rw [show ((pos a i (j+1):Nat):Int)=(pos a i j:Nat)+1 from by unfold pos;omega],HJ3⟩
      case measure=>simp [intOf];omega
     ·have HX:=LH hJx3
      clear hJx3
      gi_wp2
      refine bodyPost_ret (results_none rfl _ _ _) rfl ?_
      refine ⟨⟨_,rfl⟩,.inr ⟨_,⟨pos a i j+1,?_,(zaA _ _).symm⟩,HX.out⟩⟩
      have:=zSD hlt hjl
      exact (List.getElem?_eq_some_iff.1 this).1
    ·obtain rfl:j=a[i].length:=by omega
     have HJ3:=HJ
     rw [Hpn.out] at HJ3
     have hjl':¬ ((a[i].length:Int)<a[i].length):=by omega
     gi_wp2
     go_roundw
     case rel=>exact ⟨i+1,by omega,by go_num,by rw [Hpn.out],HJ3⟩
     case measure=>simp [intOf];omega
  ·obtain rfl:i=a.length:=by omega
   have hlt':¬ ((a.length:Int)<a.length):=by omega
   have hJ:=HJ.out
   rw [zfL] at hJ
   have HJ2:=LH hJ.1
   clear hJ
   gi_wp2
   go_end0
   exact ⟨⟨_,rfl⟩,.inl (by simpa using HJ2.out)⟩
theorem zvG (A:Option Addr) (n c:Nat) (w:World):Calls Tryz.prog 206 #[.slice A n c] w fun e w'=>e=.returned (.func (.func 247) #[] #[.pointer (some ⟨w.heap.size,0,none⟩)])∧w'=w.alloc (.cells #[.slice A n c] 29):=by
 go_enter Tryz.func206,Tryz.ntmps206
 go_wp2
 go_ret
 exact ⟨rfl,rfl⟩
theorem zwG (F:Fence) (n:Nat) (h7:F.fn 247) (hro:F.round=none) (hn:1≤n) (a:List (List Int)) (ho:OkA a) (hfl:a.flatten.length≤1000000) (A:Option Addr) (c:Nat) (w0:World) (hR:RowsR .u64 a (.slice A a.length c) w0) (Bs:Nat) (w:World) (hw:Below w0.heap.size w0 w) (hlt:Bs<w.heap.size)
    (hBs:w.cell? ⟨Bs,0,none⟩=some (.slice A a.length c)) :
    SeqStopsK F n Tryz.prog 247 #[.pointer (some ⟨Bs,0,none⟩)] (fun x:Nat×U64=>#[Value.int .i64 (x.1:Int),Value.int .u64 x.2.1]) (Below w0.heap.size) (fun ys=>ys=upto (fun k=>(k,wat a.flatten k)) a.flatten.length)
     (fun pre=>∃ k,k≤a.flatten.length∧pre=upto (fun k=>(k,wat a.flatten k)) k) a.flatten.length w:=fun l J Jx W hW _ _ hY h0 =>
 zGJ F n h7 hro hn l Bs a ho hfl A c w0 hR J Jx hY W (hw.trans (hW.mono hw.size)) ((hW.cell (p:=⟨Bs,0,none⟩) hlt).trans hBs) h0
end Go.Proofs.YtfkcpaahdlkcdaaGreat
namespace Go.Proofs.YtfkcpaahdlkcdaaGreat
open Go.RowKit Go.Shelf
attribute [local go_sem] Oper.semAt_some
def bytesW (pre:List (Nat×U64)):List Int:=pre.flatMap (fun x=>putB x.2.1 8)
theorem zxG (pre:List (Nat×U64)) (x:Nat×U64):u8s (bytesW (pre++[x]))=u8s (bytesW pre)++u8s (putB x.2.1 8):=by simp [bytesW,u8s]
theorem zAA (pre:List (Nat×U64)):(bytesW pre).length=pre.length*8:=by
 induction pre with
 | nil=>rfl
 | cons x r ih=>simp [bytesW,zX] at ih ⊢;omega
theorem zrC {W w1:World} {n₀ B:Nat} {t e:TypeId} {size:Nat} {v v':Value} {k m:Nat} {xs ys:List Value}
    (hv:Boxed W B t v) (hte:t≠e) (hrow:W.ownsRow n₀ e size v k xs) (hn₀:n₀≤W.heap.size) (hB:n₀≤B) (hown':w1.ownsRow n₀ e size v' m ys) (hgrow:W.grownBy w1 v.ownBlock) :
    Boxed w1 B t v∧Boxed (w1.setCell ⟨B,0,none⟩ v') B t v'∧(w1.setCell ⟨B,0,none⟩ v').ownsRow n₀ e size v' m ys∧KeepsOthers W (w1.setCell ⟨B,0,none⟩ v')∧Below n₀ W (w1.setCell ⟨B,0,none⟩ v'):=by
 have hv1:Boxed w1 B t v:=hv.kept hgrow (hv.not_row hte hrow)
 refine ⟨hv1,hv1.set v',hown'.kept (grownBy_setCell' w1 B v') (.inr (hv1.not_row hte hown').symm),?_,?_⟩
 ·refine (KeepsOthers.of_grownBy hgrow fun j o ej hj=>?_).trans (KeepsOthers.setCell _ _ _)
  rcases hrow.2 with ⟨rfl,_⟩ | ⟨g,cap,cur,rfl,_,hgb,_⟩
  ·simp [Value.ownBlock] at ej
  ·obtain rfl:g=j:=by simpa [Value.ownBlock] using ej
   rw [hgb] at hj;cases hj;rfl
 ·refine ((Below.refl n₀ W).grown hgrow hn₀ fun j ej=>?_).setCell (p:=⟨B,0,none⟩) hB v'
  exact (hrow.lt j ej).1
theorem zpF (a:List (List Int)) (ho:OkA a) (hfl:a.flatten.length≤1000000) (A:Option Addr) (c:Nat) (w:World) (hR:RowsR .u64 a (.slice A a.length c) w) :
    Calls Tryz.prog 138 #[.slice A a.length c] w fun e w'=>∃ v,e=.returned v∧Grow w w'∧w'.ownsRow w.heap.size 5 1 v (bytesW (upto (fun k=>(k,wat a.flatten k)) a.flatten.length)).length (u8s (bytesW (upto (fun k=>(k,wat a.flatten k)) a.flatten.length))):=by
 refine (callsIn_wide (n:=3)).1 ?_
 refine callsIn_of_wp_marks Tryz.func138 rfl trivial ?_ rfl
 simp only [Tryz.ntmps138,List.size_toArray,List.length_cons,List.length_nil,Nat.reduceAdd,Nat.reduceSub,Array.replicate_succ,Array.replicate_zero,List.push_toArray,List.append_toArray,List.nil_append,List.cons_append]
 gi_wp2_with (refine ⟨trivial,?_⟩;gi_at_call 206;refine (callsIn_wide.2 (zvG A a.length c _)).mono ?_;rintro e w' ⟨rfl,rfl⟩)
 have bO:=Boxed.new w 23 (.slice none 0 0)
 have bN:=Boxed.new (w.alloc (.cells #[qI] 23)) 29 (.slice A a.length c)
 rw [World.size_alloc] at bN
 have hB0:Below w.heap.size w ((w.alloc (.cells #[qI] 23)).alloc (.cells #[.slice A a.length c] 29)):=((Below.refl _ w).alloc (Nat.le_refl _) _).alloc (by simp) _
 refine wpIn_rangeFunc_ownG rfl (show 1≤3 by omega) (gf:=247) (lb:=#[.pointer (some ⟨w.heap.size+1,0,none⟩)]) rfl trivial (enters_of Tryz.func247 (by kernel_rfl) rfl)
  (zwG Fence.wide _ trivial rfl (by omega) a ho hfl A c w hR (w.heap.size+1) _ hB0 (by simp) bN.cell) belowK_t (belowK_b (by simp;omega)) (Below.refl _ _) (fun _=>rfl)
  (fun pre W=>(∃ v,Boxed W w.heap.size 23 v∧W.ownsRow w.heap.size 5 1 v (bytesW pre).length (u8s (bytesW pre))∧True)∧Below w.heap.size w W)
  (fun _ _ _=>False)
  (OwnFrom.and (Own.from (holdsRow_own w.heap.size w.heap.size 23 5 1 (fun pre=>(bytesW pre).length) (fun pre=>u8s (bytesW pre)) (fun pre v=>True)) _) (ownFrom_below (Nat.le_refl _) (by simp;omega)))
  (fun _ _ _ _ _ hs _ _=>hs)
  ⟨⟨_,bO.alloc _,World.ownsRow_nil _ _ _ _,trivial⟩,hB0⟩
  (fun x=>{ tmps:=#[.slice A a.length c,undef,.slice none 0 0,.pointer (some ⟨w.heap.size,0,none⟩),undef,.int .u64 x.2.1,.slice A a.length c,.func (.func 247) #[] #[.pointer (some ⟨w.heap.size+1,0,none⟩)],.int .i64 x.1,.int .u64 x.2.1,undef,undef,undef,undef,undef],defers:=[] }) ?assign ?body ?done ?stop
 case assign =>
  intro l x W K hK
  gi_wp2
  exact hK
 case body =>
  rintro l pre x W ⟨⟨v,hv,hrow,-⟩,hB⟩ hlt
  have hc:=hv.cell
  have hf:=hv.frozen
  have hmx:Tryz.prog.follows .mixedOrders=true:=by kernel_rfl
  have hd:1≤3-1-1:=by omega
  gi_wp2
  obtain ⟨Av,cv,rfl,-⟩:=zK hrow
  have hxb:=x.2.2
  have HB:=LH hB
  have Hrow:=LH hrow
  have Hv:=LH hv
  have hln:=zAA pre
  have hsn:=LH (zxG pre x)
  clear hB hrow hv
  have hln2:(bytesW pre).length≤8000000:=by omega
  have Hln:=LH hln
  clear hln
  refine wpIn_region_any hmx ?_
  refine wpAnyIn_all (rs:=[0,1]) (by kernel_rfl) (by simp) ?_
  intro i hi
  simp only [List.mem_cons,List.not_mem_nil,or_false] at hi
  rcases hi with rfl | rfl
  ·refine zKC _ _ rfl rfl rfl (by intro c h;cases h) (by go_simp;first | with_reducible rfl | (constructor <;> with_reducible rfl)) (by simp only [Act.put,pB,pC,pD];rfl) ?_
   refine wpAnyIn_all (rs:=[1]) (by kernel_rfl) (by simp) ?_
   intro i hi
   simp only [List.mem_cons,List.not_mem_nil,or_false] at hi
   subst hi
   refine zKC _ _ rfl rfl rfl (by intro c h;cases h) (by go_simp;first | with_reducible rfl | (constructor <;> with_reducible rfl)) (by simp only [Act.put,pB,pC,pD];rfl) ?_
   refine wpAnyIn_all (rs:=[2]) (by kernel_rfl) (by simp) ?_
   intro i hi
   simp only [List.mem_cons,List.not_mem_nil,or_false] at hi
   subst hi
   refine zoF rfl rfl rfl (by intro c h;cases h) (f:=137) (args:=#[.int .u64 x.2.1,.int .i64 8]) (by go_simp) ?_
   refine (zLB x.2.1 8 _ hxb.1 hxb.2 (by omega) (by omega)).mono ?_
   rintro e w5 ⟨A5,c5,rfl,hg,hoo⟩
   rw [zX] at hoo ⊢
   refine ⟨_,rfl,?_⟩
   have hc5:=(Grow.heap hg (show W.drew.heap[w.heap.size]? = _ from Hv.out))
   have hcc:w5.cell? ⟨w.heap.size,0,none⟩=some (.slice Av (bytesW pre).length cv):=World.news_of_block hc5 0 _ rfl
   have Hoo:=LH hoo
   have Hg:=LH hg
   clear hoo hg
   simp only [Act.put,pB,pC,pD]
   refine wpAnyIn_all (rs:=[3]) (by kernel_rfl) (by simp) ?_
   intro i hi
   simp only [List.mem_cons,List.not_mem_nil,or_false] at hi
   subst hi
   refine zlD rfl rfl rfl (Operand.tmp 10) (Operand.tmp 12) 23 23 rfl w.heap.size 5 (.int .u8 0) 1 1 zW zz rfl (.slice Av (bytesW pre).length cv) (bytesW pre).length (u8s (bytesW pre)) rfl (.slice A5 8 c5) 8 (u8s (putB x.2.1 8)) rfl ?_ (zF Hrow.out (show Grow W w5 from (Keep.refl NoB W).drew.grow Hg.out) (fun _ _ h=>h)) ((SliceR.of_own Hoo.out).src zW (zJB _)) (by simp only [maxLen];omega) (by omega) (by have:=Hg.out.size;have:=HB.out.size;simp at *;omega)
   intro v6 w6 hap
   have hap1:=zrC hc5 (by decide) (zF Hrow.out (show Grow W w5 from (Keep.refl NoB W).drew.grow Hg.out) (fun _ _ h=>h)) (by have:=Hg.out.size;have:=HB.out.size;simp at *;omega) (Nat.le_refl _) hap.own hap.grew
   obtain ⟨hv1,hv2,hr2,hk2,hb2⟩:=hap1
   obtain ⟨A6,c6,rfl,_⟩:=zK hap.own
   have hc6:=hv1.cell
   have hf6:=hv1.frozen
   simp only [Act.put,pB,pC,pD]
   refine wpAnyIn_all (rs:=[4]) (by kernel_rfl) (by simp) ?_
   intro i hi
   simp only [List.mem_cons,List.not_mem_nil,or_false] at hi
   subst hi
   refine znF rfl rfl rfl (by intro c h;cases h) (by go_simp;with_reducible rfl) ?_
   refine wpAnyIn_done (by kernel_rfl) ?_ _
   have hkW:KeepsOthers W w5:=⟨Hg.out.size,fun k o hk _=>Grow.heap ((Keep.refl NoB W).drew.grow Hg.out) hk⟩
   have hbW:Below w.heap.size W w5:=((Keep.refl NoB W).drew.grow Hg.out).below w.heap.size HB.out.size (fun _ h=>h.elim)
   have ho6:(w6.setCell ⟨w.heap.size,0,none⟩ (.slice A6 ((bytesW pre).length+8) c6)).ownsRow w.heap.size 5 1 (.slice A6 ((bytesW pre).length+8) c6) (bytesW (pre++[x])).length (u8s (bytesW (pre++[x]))):=by
    rw [show (bytesW (pre++[x])).length=(bytesW pre).length+8 from by rw [zAA,zAA,List.length_append,List.length_singleton];omega,hsn.out]
    exact hr2
   exact ⟨(hkW.trans hk2).from _,hbW.trans hb2,⟨_,hv2,ho6,trivial⟩,HB.out.trans (hbW.trans hb2)⟩
  ·refine zKC _ _ rfl rfl rfl (by intro c h;cases h) (by go_simp;first | with_reducible rfl | (constructor <;> with_reducible rfl)) (by simp only [Act.put,pB,pC,pD];rfl) ?_
   refine wpAnyIn_all (rs:=[0,2]) (by kernel_rfl) (by simp) ?_
   intro i hi
   simp only [List.mem_cons,List.not_mem_nil,or_false] at hi
   rcases hi with rfl | rfl
   ·refine zKC _ _ rfl rfl rfl (by intro c h;cases h) (by go_simp;first | with_reducible rfl | (constructor <;> with_reducible rfl)) (by simp only [Act.put,pB,pC,pD];rfl) ?_
    refine wpAnyIn_all (rs:=[2]) (by kernel_rfl) (by simp) ?_
    intro i hi
    simp only [List.mem_cons,List.not_mem_nil,or_false] at hi
    subst hi
    refine zoF rfl rfl rfl (by intro c h;cases h) (f:=137) (args:=#[.int .u64 x.2.1,.int .i64 8]) (by go_simp) ?_
    refine (zLB x.2.1 8 _ hxb.1 hxb.2 (by omega) (by omega)).mono ?_
    rintro e w5 ⟨A5,c5,rfl,hg,hoo⟩
    rw [zX] at hoo ⊢
    refine ⟨_,rfl,?_⟩
    have hc5:=(Grow.heap hg (show W.drew.heap[w.heap.size]? = _ from Hv.out))
    have hcc:w5.cell? ⟨w.heap.size,0,none⟩=some (.slice Av (bytesW pre).length cv):=World.news_of_block hc5 0 _ rfl
    have Hoo:=LH hoo
    have Hg:=LH hg
    clear hoo hg
    simp only [Act.put,pB,pC,pD]
    refine wpAnyIn_all (rs:=[3]) (by kernel_rfl) (by simp) ?_
    intro i hi
    simp only [List.mem_cons,List.not_mem_nil,or_false] at hi
    subst hi
    refine zlD rfl rfl rfl (Operand.tmp 10) (Operand.tmp 12) 23 23 rfl w.heap.size 5 (.int .u8 0) 1 1 zW zz rfl (.slice Av (bytesW pre).length cv) (bytesW pre).length (u8s (bytesW pre)) rfl (.slice A5 8 c5) 8 (u8s (putB x.2.1 8)) rfl ?_ (zF Hrow.out (show Grow W w5 from (Keep.refl NoB W).drew.grow Hg.out) (fun _ _ h=>h)) ((SliceR.of_own Hoo.out).src zW (zJB _)) (by simp only [maxLen];omega) (by omega) (by have:=Hg.out.size;have:=HB.out.size;simp at *;omega)
    intro v6 w6 hap
    have hap1:=zrC hc5 (by decide) (zF Hrow.out (show Grow W w5 from (Keep.refl NoB W).drew.grow Hg.out) (fun _ _ h=>h)) (by have:=Hg.out.size;have:=HB.out.size;simp at *;omega) (Nat.le_refl _) hap.own hap.grew
    obtain ⟨hv1,hv2,hr2,hk2,hb2⟩:=hap1
    obtain ⟨A6,c6,rfl,_⟩:=zK hap.own
    have hc6:=hv1.cell
    have hf6:=hv1.frozen
    simp only [Act.put,pB,pC,pD]
    refine wpAnyIn_all (rs:=[4]) (by kernel_rfl) (by simp) ?_
    intro i hi
    simp only [List.mem_cons,List.not_mem_nil,or_false] at hi
    subst hi
    refine znF rfl rfl rfl (by intro c h;cases h) (by go_simp;with_reducible rfl) ?_
    refine wpAnyIn_done (by kernel_rfl) ?_ _
    have hkW:KeepsOthers W w5:=⟨Hg.out.size,fun k o hk _=>Grow.heap ((Keep.refl NoB W).drew.grow Hg.out) hk⟩
    have hbW:Below w.heap.size W w5:=((Keep.refl NoB W).drew.grow Hg.out).below w.heap.size HB.out.size (fun _ h=>h.elim)
    have ho6:(w6.setCell ⟨w.heap.size,0,none⟩ (.slice A6 ((bytesW pre).length+8) c6)).ownsRow w.heap.size 5 1 (.slice A6 ((bytesW pre).length+8) c6) (bytesW (pre++[x])).length (u8s (bytesW (pre++[x]))):=by
     rw [show (bytesW (pre++[x])).length=(bytesW pre).length+8 from by rw [zAA,zAA,List.length_append,List.length_singleton];omega,hsn.out]
     exact hr2
    exact ⟨(hkW.trans hk2).from _,hbW.trans hb2,⟨_,hv2,ho6,trivial⟩,HB.out.trans (hbW.trans hb2)⟩
   ·refine zoF rfl rfl rfl (by intro c h;cases h) (f:=137) (args:=#[.int .u64 x.2.1,.int .i64 8]) (by go_simp) ?_
    refine (zLB x.2.1 8 _ hxb.1 hxb.2 (by omega) (by omega)).mono ?_
    rintro e w5 ⟨A5,c5,rfl,hg,hoo⟩
    rw [zX] at hoo ⊢
    refine ⟨_,rfl,?_⟩
    have hc5:=(Grow.heap hg (show W.drew.heap[w.heap.size]? = _ from Hv.out))
    have hcc:w5.cell? ⟨w.heap.size,0,none⟩=some (.slice Av (bytesW pre).length cv):=World.news_of_block hc5 0 _ rfl
    have Hoo:=LH hoo
    have Hg:=LH hg
    clear hoo hg
    simp only [Act.put,pB,pC,pD]
    refine wpAnyIn_all (rs:=[0]) (by kernel_rfl) (by simp) ?_
    intro i hi
    simp only [List.mem_cons,List.not_mem_nil,or_false] at hi
    subst hi
    refine zKC _ _ rfl rfl rfl (by intro c h;cases h) (by go_simp;first | with_reducible rfl | (constructor <;> with_reducible rfl)) (by simp only [Act.put,pB,pC,pD];rfl) ?_
    refine wpAnyIn_all (rs:=[3]) (by kernel_rfl) (by simp) ?_
    intro i hi
    simp only [List.mem_cons,List.not_mem_nil,or_false] at hi
    subst hi
    refine zlD rfl rfl rfl (Operand.tmp 10) (Operand.tmp 12) 23 23 rfl w.heap.size 5 (.int .u8 0) 1 1 zW zz rfl (.slice Av (bytesW pre).length cv) (bytesW pre).length (u8s (bytesW pre)) rfl (.slice A5 8 c5) 8 (u8s (putB x.2.1 8)) rfl ?_ (zF Hrow.out (show Grow W w5 from (Keep.refl NoB W).drew.grow Hg.out) (fun _ _ h=>h)) ((SliceR.of_own Hoo.out).src zW (zJB _)) (by simp only [maxLen];omega) (by omega) (by have:=Hg.out.size;have:=HB.out.size;simp at *;omega)
    intro v6 w6 hap
    have hap1:=zrC hc5 (by decide) (zF Hrow.out (show Grow W w5 from (Keep.refl NoB W).drew.grow Hg.out) (fun _ _ h=>h)) (by have:=Hg.out.size;have:=HB.out.size;simp at *;omega) (Nat.le_refl _) hap.own hap.grew
    obtain ⟨hv1,hv2,hr2,hk2,hb2⟩:=hap1
    obtain ⟨A6,c6,rfl,_⟩:=zK hap.own
    have hc6:=hv1.cell
    have hf6:=hv1.frozen
    simp only [Act.put,pB,pC,pD]
    refine wpAnyIn_all (rs:=[4]) (by kernel_rfl) (by simp) ?_
    intro i hi
    simp only [List.mem_cons,List.not_mem_nil,or_false] at hi
    subst hi
    refine znF rfl rfl rfl (by intro c h;cases h) (by go_simp;with_reducible rfl) ?_
    refine wpAnyIn_done (by kernel_rfl) ?_ _
    have hkW:KeepsOthers W w5:=⟨Hg.out.size,fun k o hk _=>Grow.heap ((Keep.refl NoB W).drew.grow Hg.out) hk⟩
    have hbW:Below w.heap.size W w5:=((Keep.refl NoB W).drew.grow Hg.out).below w.heap.size HB.out.size (fun _ h=>h.elim)
    have ho6:(w6.setCell ⟨w.heap.size,0,none⟩ (.slice A6 ((bytesW pre).length+8) c6)).ownsRow w.heap.size 5 1 (.slice A6 ((bytesW pre).length+8) c6) (bytesW (pre++[x])).length (u8s (bytesW (pre++[x]))):=by
     rw [show (bytesW (pre++[x])).length=(bytesW pre).length+8 from by rw [zAA,zAA,List.length_append,List.length_singleton];omega,hsn.out]
     exact hr2
    exact ⟨(hkW.trans hk2).from _,hbW.trans hb2,⟨_,hv2,ho6,trivial⟩,HB.out.trans (hbW.trans hb2)⟩
 case done =>
  rintro D ys W hD rfl ⟨⟨v,hv,hrow,-⟩,hB⟩ hK
  have hc:=hv.cell
  gi_wp2
  refine ⟨by simp,.inl ⟨_,_,rfl,run_takeDeferred hK,?_⟩⟩
  refine ⟨_,results_tmp rfl _ _ _,v,rfl,Keep.of_below (hB.trans (belowK_b (w:=w) (Nat.le_refl _) W D _ _ (by simp at hD;omega) hK rfl rfl)),ownsRow_putObj hrow _ hK rfl⟩
 case stop =>
  rintro D c pre W _ _ h _
  exact h.elim
end Go.Proofs.YtfkcpaahdlkcdaaGreat
namespace Go.Proofs.YtfkcpaahdlkcdaaGreat
open Go.RowKit
theorem zTJ (a:List (List Int)) (k:Nat) (h:k<a.length):(a.take (k+1)).flatten.length=(a.take k).flatten.length+a[k].length:=by
 rw [List.take_succ_eq_append_getElem h,List.flatten_append,List.length_append];simp only [List.flatten_cons,List.flatten_nil,List.append_nil]
theorem znL (a:List (List Int)) (B:Nat) (h:∀ s∈a,s.length≤B):a.flatten.length≤a.length*B:=by
 induction a with
 | nil=>simp
 | cons x r ih =>
  have h1:=h x (List.mem_cons_self ..)
  have h2:=ih (fun s hs=>h s (List.mem_cons_of_mem _ hs))
  simp only [List.flatten_cons,List.length_append,List.length_cons,Nat.succ_mul]
  omega
theorem zcC (a:List (List Int)) (A:Option Addr) (c:Nat) (hl:a.length≤1000) (hb:∀ s∈a,s.length≤1000000) (w:World) (hR:RowsR .u64 a (.slice A a.length c) w) :
    Calls Tryz.prog 241 #[.slice A a.length c] w fun e w'=>e=.returned (.int .i64 (a.flatten.length:Nat))∧w=w':=by
 have HR:=LH hR
 have HB:=LH hb
 clear hR hb
 go_enter Tryz.func241,Tryz.ntmps241
 go_wp2
 go_loop [3,4] (fun s i=>∃ k:Nat,k≤a.length∧i=.int .i64 k∧s=.int .i64 ((a.take k).flatten.length:Nat)) (fun _ i=>a.length-(intOf i).toNat)
 case atStart=>exact ⟨0,by omega,rfl,by simp⟩
 case round =>
  obtain ⟨k,hk,rfl,rfl⟩:=hrel
  have hbb:=znL (a.take k) 1000000 (fun s hs=>HB.out s (List.mem_of_mem_take hs))
  have hbl:(a.take k).length≤1000:=by simp;omega
  have hbm:(a.take k).length*1000000≤1000*1000000:=Nat.mul_le_mul_right _ hbl
  obtain ⟨S,hS⟩:∃ S,(a.take k).flatten.length=S:=⟨_,rfl⟩
  rw [hS] at hbb ⊢
  by_cases hlt:k<a.length
  ·have hlt':(k:Int)<a.length:=by omega
   obtain ⟨ad,A',c',rfl,hcell,_⟩:=RowsR.at_ HR.out k hlt
   have hkb:=HB.out _ (List.getElem_mem hlt)
   have HN:Hid ((a.take (k+1)).flatten.length=S+a[k].length):=LH (by rw [zTJ a k hlt,hS])
   obtain ⟨L,hL⟩:∃ L,a[k].length=L:=⟨_,rfl⟩
   rw [hL] at hcell hkb HN
   have hw:IntKind.i64.wrap ((k:Int)+1)=(k:Int)+1:=IntWalk.i64_in _ (by omega)
   have hw2:IntKind.i64.wrap ((S:Int)+L)=(S:Int)+L:=IntWalk.i64_in _ (by omega)
   clear hbb hbl hbm hS hL
   go_wp2
   go_round
   case rel=>exact ⟨k+1,by omega,by go_num,by rw [HN.out];go_num⟩
   case measure=>simp [intOf];omega
  ·obtain rfl:k=a.length:=by omega
   have hlt':¬ ((a.length:Int)<a.length):=by omega
   have HS:=LH hS
   clear hbb hbl hbm hS
   go_wp2
   go_ret
   exact ⟨ret_i (by rw [← HS.out,List.take_length];simp),rfl⟩
end Go.Proofs.YtfkcpaahdlkcdaaGreat

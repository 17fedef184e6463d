import Derived.Test.YtfkcpaahdlkcdaaGreatRRecvReads03
import Derived.Test.YtfkcpaahdlkcdaaGreatRRecvReads04
set_option linter.unusedSimpArgs false
set_option linter.unusedVariables false
set_option maxRecDepth 100000
set_option maxHeartbeats 16000000
namespace Go.Proofs.YtfkcpaahdlkcdaaGreat
open Go.RowKit
structure SouOk (sz:List Int) (wd:Int→Int→Int×Int):Prop where
 sz:∀ x∈sz,0≤x∧x≤100000
 val:∀ seg at_,0≤(wd seg at_).1∧(wd seg at_).1≤18446744073709551615
 inb:∀ seg at_,(wd seg at_).2=0→0≤seg∧0≤at_∧at_≤100000
theorem zi {a:List (List Int)} (h:OkA a):SouOk (szs a) (wordA a):=by
 refine ⟨zZF h,fun seg at_=>?_,fun seg at_ he=>?_⟩
 ·unfold wordA
  split
  ·rename_i hc
   have h1:seg.toNat<a.length:=by omega
   have e1:a.getD seg.toNat []=a[seg.toNat]:=by simp [List.getD_eq_getElem?_getD,List.getElem?_eq_getElem h1]
   rw [e1] at hc ⊢
   have h2:at_.toNat<a[seg.toNat].length:=by omega
   have e2:a[seg.toNat].getD at_.toNat 0=a[seg.toNat][at_.toNat]:=by simp [List.getD_eq_getElem?_getD,List.getElem?_eq_getElem h2]
   rw [e2]
   exact h.nums _ (List.getElem_mem h1) _ (List.getElem_mem h2)
  ·simp
 ·unfold wordA at he
  split at he
  ·rename_i hc
   have h1:seg.toNat<a.length:=by omega
   have e1:a.getD seg.toNat []=a[seg.toNat]:=by simp [List.getD_eq_getElem?_getD,List.getElem?_eq_getElem h1]
   rw [e1] at hc
   have:=h.words _ (List.getElem_mem h1)
   omega
  ·simp at he
def ptrAt (wd:Int→Int→Int×Int) (seg at_:Int):Pt×Int:=if (wd seg at_).2=0 then ptrDec (wd seg at_).1 else (pt0,(wd seg at_).2)
def PAPost (wd:Int→Int→Int×Int) (seg at_:Int) (w:World) (e:Ending) (w':World):Prop:=e=.returned (.tuple #[.agg (ptrAt wd seg at_).1,.int .u16 (ptrAt wd seg at_).2])∧Grow w w'
theorem zVB {sz:List Int} {wd:Int→Int→Int×Int} (h:SouOk sz wd) (seg at_:Int):PtOk (ptrAt wd seg at_).1:=by
 unfold ptrAt
 split
 ·exact zeB _ (h.val seg at_).1
 ·exact zdF
def obOf (p:Pt) (seg at_:Int):Ob:=⟨p.kind,seg,at_,p.data,p.ptrs,p.size,p.count⟩
theorem zyA {p:Pt} (h:PtOk p) (seg at_:Int):ObOk (obOf p seg at_):=⟨h.k,h.d,h.q,h.s,h.c⟩
def foundP (sz:List Int) (p:Pt) (seg at_:Int):Ob×Int :=
 if (ptrWords (obP (obOf p seg at_))).2=0 then if withinB sz seg at_ (ptrWords (obP (obOf p seg at_))).1 then (obOf p seg at_,0) else (ob0,20) else (ob0,(ptrWords (obP (obOf p seg at_))).2)
def landedP (sz:List Int) (wd:Int→Int→Int×Int) (p:Pt):Ob×Int :=
 if (ptrAt wd p.seg p.off).2=0 then if isNear (ptrAt wd p.seg p.off).1 then foundP sz (ptrAt wd p.seg p.off).1 p.seg (p.off+1+(ptrAt wd p.seg p.off).1.off) else (ob0,23) else (ob0,(ptrAt wd p.seg p.off).2)
def twiceP (sz : List Int) (wd : Int → Int → Int × Int) (p : Pt) : Ob × Int :=
 if (wd p.seg p.off).2 = 0 then
  if (wd p.seg (p.off + 1)).2 = 0 then
   if (ptrDec (wd p.seg p.off).1).2 = 0 then
    if (ptrDec (wd p.seg (p.off+1)).1).2=0 then
     if (ptrDec (wd p.seg p.off).1).1.kind=3∧(ptrDec (wd p.seg p.off).1).1.dbl=false∧isNear (ptrDec (wd p.seg (p.off+1)).1).1=true∧(ptrDec (wd p.seg (p.off+1)).1).1.off=0 then
      foundP sz (ptrDec (wd p.seg (p.off+1)).1).1 (ptrDec (wd p.seg p.off).1).1.seg (ptrDec (wd p.seg p.off).1).1.off
     else (ob0,23)
    else (ob0,(ptrDec (wd p.seg (p.off+1)).1).2)
   else (ob0,(ptrDec (wd p.seg p.off).1).2)
  else (ob0,(wd p.seg (p.off+1)).2)
 else (ob0,(wd p.seg p.off).2)
def followP (sz:List Int) (wd:Int→Int→Int×Int) (seg at_:Int):Ob×Int :=
 if (ptrAt wd seg at_).2=0∧(ptrAt wd seg at_).1.kind≠0 then
  if isNear (ptrAt wd seg at_).1 then foundP sz (ptrAt wd seg at_).1 seg (at_+1+(ptrAt wd seg at_).1.off)
  else if (ptrAt wd seg at_).1.dbl then twiceP sz wd (ptrAt wd seg at_).1
  else landedP sz wd (ptrAt wd seg at_).1
 else (ob0,(ptrAt wd seg at_).2)
def ObPost (r:Ob×Int) (w:World) (e:Ending) (w':World):Prop:=e=.returned (.tuple #[.agg r.1,.int .u16 r.2])∧Grow w w'
theorem zbC {sv:Value} {sz:List Int} {wd:Int→Int→Int×Int} {w:World} (h:Sou sv sz wd w) (ho:SouOk sz wd) (seg at_:Int):Calls Tryz.prog 259 #[sv,.int .i64 seg,.int .i64 at_] w (PAPost wd seg at_ w):=by
 obtain ⟨T,pv,fw,fs,r,rfl,h2,h3,k1,k2,h4,h5⟩:=h.out
 have HG:=LH ((Keep.refl NoB w).alloc (.cells qB 120))
 have HB0:=LH (heap_alloc_new w (.cells qB 120))
 have H4:=LH h4
 have HS:=LH (h.grow HG.out)
 have HV:=LH (ho.val seg at_)
 clear h h3 h4 h5 ho k2
 by_cases he:(wd seg at_).2=0
 ·have eb:((wd seg at_).2 != 0)=false:=by simp [he]
  have E:Hid (ptrAt wd seg at_=ptrDec (wd seg at_).1):=LH (if_pos he)
  clear he
  go_enter Tryz.func259,Tryz.ntmps259
  go_wp2_with fail
  refine (H4.out _ HG.out seg at_).mono ?_
  rintro e w1 ⟨rfl,hg⟩
  replace HB0:=LH (hg.heap HB0.out)
  replace HG:=LH (HG.out.grow hg)
  replace HS:=LH (HS.out.grow hg)
  clear hg
  go_wp2_with fail
  refine (zOC (wd seg at_).1 _ HV.out.1 HV.out.2).mono ?_
  rintro e w2 ⟨rfl,hg⟩
  replace HB0:=LH (hg.heap HB0.out)
  replace HG:=LH (HG.out.grow hg)
  replace HS:=LH (HS.out.grow hg)
  clear hg
  obtain ⟨b0,b1,b2,b3,b4,b5,b6,b7,bf⟩:=zP HB0.out
  have hst:=LH (zKB (.int .i64 (ptrDec (wd seg at_).1).1.kind) (.int .i64 (ptrDec (wd seg at_).1).1.off) (.int .i64 (ptrDec (wd seg at_).1).1.data) (.int .i64 (ptrDec (wd seg at_).1).1.ptrs) (.int .i64 (ptrDec (wd seg at_).1).1.size) (.int .i64 (ptrDec (wd seg at_).1).1.count) (.int .i64 (ptrDec (wd seg at_).1).1.seg) (.bool (ptrDec (wd seg at_).1).1.dbl) HG.out (Nat.le_refl _) HB0.out)
  go_wp2
  (try simp only [Exit.inBlock,Exit.then])
  obtain ⟨r0,r1,r2,r3,r4,r5,r6,r7,rf⟩:=zP hst.out.1
  refine bodyPost_ret (v:=.tuple #[.agg (ptrDec (wd seg at_).1).1,.int .u16 (ptrDec (wd seg at_).1).2]) ?_ rfl ⟨?_,hst.out.2⟩
  ·rw [results_cell_tmp rfl];go_simp
  ·rw [E.out] <;> rfl
 ·have eb:((wd seg at_).2 != 0)=true:=by simp [he]
  have E:Hid (ptrAt wd seg at_=(pt0,(wd seg at_).2)):=LH (if_neg he)
  clear he
  go_enter Tryz.func259,Tryz.ntmps259
  go_wp2_with fail
  refine (H4.out _ HG.out seg at_).mono ?_
  rintro e w1 ⟨rfl,hg⟩
  replace HB0:=LH (hg.heap HB0.out)
  replace HG:=LH (HG.out.grow hg)
  replace HS:=LH (HS.out.grow hg)
  clear hg
  obtain ⟨b0,b1,b2,b3,b4,b5,b6,b7,bf⟩:=zP HB0.out
  have hst:=LH (zKB (.int .i64 0) (.int .i64 0) (.int .i64 0) (.int .i64 0) (.int .i64 0) (.int .i64 0) (.int .i64 0) (.bool false) HG.out (Nat.le_refl _) HB0.out)
  go_wp2
  (try simp only [Exit.inBlock,Exit.then])
  obtain ⟨r0,r1,r2,r3,r4,r5,r6,r7,rf⟩:=zP hst.out.1
  refine bodyPost_ret (v:=.tuple #[.agg qB,.int .u16 (wd seg at_).2]) ?_ rfl ⟨?_,hst.out.2⟩
  ·rw [results_cell_tmp rfl];go_simp
  ·rw [E.out] <;> rfl
theorem zBI (w:World) (o1 o2 o3:Obj):(((w.alloc o1).alloc o2).alloc o3).heap[w.heap.size]? = some o1∧(((w.alloc o1).alloc o2).alloc o3).heap[w.heap.size+1]? = some o2∧(((w.alloc o1).alloc o2).alloc o3).heap[w.heap.size+2]? = some o3∧Grow w (((w.alloc o1).alloc o2).alloc o3):=by
 obtain ⟨h1,h2,h3⟩:=zU w o1 o2
 have hg:=(Keep.refl NoB ((w.alloc o1).alloc o2)).alloc o3
 have h4:=heap_alloc_new ((w.alloc o1).alloc o2) o3
 exact ⟨Grow.heap hg h1,Grow.heap hg h2,by simpa using h4,h3.grow hg⟩
theorem zAC {sv:Value} {sz:List Int} {wd:Int→Int→Int×Int} {w:World} (h:Sou sv sz wd w) (ho:SouOk sz wd) (p:Pt) (hp:PtOk p) (seg at_:Int) (hat : -9223372036854775808≤at_):Calls Tryz.prog 261 #[sv,.agg p,.int .i64 seg,.int .i64 at_] w (ObPost (foundP sz p seg at_) w):=by
 obtain ⟨T,pv,fw,fs,r,rfl,h2,h3,k1,k2,h4,h5⟩:=h.out
 obtain ⟨hP,hB0,hO,hG⟩:=zBI w (.cells p 120) (.cells () 257) (.cells #[.int .i64 p.kind,.int .i64 seg,.int .i64 at_,.int .i64 p.data,.int .i64 p.ptrs,.int .i64 p.size,.int .i64 p.count] 257)
 have HB0:=LH hB0
 have HO:=LH hO
 have HP:=LH hP
 have HG:=LH hG
 have H5:=LH h5
 have HS:=LH (h.grow HG.out)
 have HZ:=LH ho.sz
 have HOK:=LH (zxD (zyA hp seg at_))
 obtain ⟨a0,a1,a2,a3,a4,a5,a6,a7,af⟩:=zP hP
 obtain ⟨o0,o1,o2,o3,o4,o5,o6,of⟩:=zC hO
 clear h h2 h4 h5 ho k1 hP hB0 hO hG hp
 go_enter Tryz.func261,Tryz.ntmps261
 go_wp2_with fail
 refine (znE (obOf p seg at_) _).mono ?_
 rintro e w1 ⟨rfl,hg⟩
 replace HB0:=LH (hg.heap HB0.out)
 replace HO:=LH (hg.heap HO.out)
 replace HG:=LH (HG.out.grow hg)
 replace HS:=LH (HS.out.grow hg)
 clear hg
 go_wp2_with fail
 refine (znC (obP (obOf p seg at_)) _ HOK.out).mono ?_
 rintro e w2 ⟨rfl,hg⟩
 replace HB0:=LH (hg.heap HB0.out)
 replace HO:=LH (hg.heap HO.out)
 replace HG:=LH (HG.out.grow hg)
 replace HS:=LH (HS.out.grow hg)
 clear hg
 clear a0 a1 a2 a3 a4 a5 a6 a7 af o0 o1 o2 o3 o4 o5 o6 of
 by_cases he:(ptrWords (obP (obOf p seg at_))).2=0
 ·have eb:((ptrWords (obP (obOf p seg at_))).2 != 0)=false:=by simp [he]
  have He:=LH he
  clear he
  go_wp2_with fail
  refine (H5.out _ HG.out).mono ?_
  rintro e w3 ⟨A1,c1,rfl,hg,hs⟩
  replace HB0:=LH (hg.heap HB0.out)
  replace HO:=LH (hg.heap HO.out)
  replace HG:=LH (HG.out.grow hg)
  replace HS:=LH (HS.out.grow hg)
  clear hg
  have Hs:=LH hs
  clear hs
  go_wp2_with fail
  refine (zlC A1 c1 sz _ Hs.out HZ.out seg at_ (ptrWords (obP (obOf p seg at_))).1 hat).mono ?_
  rintro e w' ⟨rfl,rfl⟩
  cases hw:withinB sz seg at_ (ptrWords (obP (obOf p seg at_))).1 with
  | false =>
   have E:Hid (foundP sz p seg at_=(ob0,20)):=LH (by unfold foundP;rw [if_pos He.out,if_neg (by simp [hw])])
   clear hw
   obtain ⟨b0,b1,b2,b3,b4,b5,b6,bf⟩:=zC HB0.out
   have hst:=LH (zc (.int .i64 0) (.int .i64 0) (.int .i64 0) (.int .i64 0) (.int .i64 0) (.int .i64 0) (.int .i64 0) HG.out (by omega) HB0.out)
   go_wp2
   (try simp only [Exit.inBlock,Exit.then])
   obtain ⟨r0,r1,r2,r3,r4,r5,r6,rf⟩:=zC hst.out.1
   refine bodyPost_ret (v:=.tuple #[.agg (),.int .u16 20]) ?_ rfl ⟨?_,hst.out.2⟩
   ·rw [results_cell_tmp rfl];go_simp
   ·rw [E.out] <;> rfl
  | true =>
   have E:Hid (foundP sz p seg at_=(obOf p seg at_,0)):=LH (by unfold foundP;rw [if_pos He.out,if_pos hw])
   clear hw
   obtain ⟨o0,o1,o2,o3,o4,o5,o6,of⟩:=zC HO.out
   obtain ⟨b0,b1,b2,b3,b4,b5,b6,bf⟩:=zC HB0.out
   have hst:=LH (zc (.int .i64 p.kind) (.int .i64 seg) (.int .i64 at_) (.int .i64 p.data) (.int .i64 p.ptrs) (.int .i64 p.size) (.int .i64 p.count) HG.out (by omega) HB0.out)
   go_wp2
   (try simp only [Exit.inBlock,Exit.then])
   obtain ⟨r0,r1,r2,r3,r4,r5,r6,rf⟩:=zC hst.out.1
   refine bodyPost_ret (v:=.tuple #[.agg #[.int .i64 p.kind,.int .i64 seg,.int .i64 at_,.int .i64 p.data,.int .i64 p.ptrs,.int .i64 p.size,.int .i64 p.count],.int .u16 0]) ?_ rfl ⟨?_,hst.out.2⟩
   ·rw [results_cell_tmp rfl];go_simp
   ·rw [E.out] <;> rfl
 ·have eb:((ptrWords (obP (obOf p seg at_))).2 != 0)=true:=by simp [he]
  have E:Hid (foundP sz p seg at_=(ob0,(ptrWords (obP (obOf p seg at_))).2)):=LH (by unfold foundP;rw [if_neg he])
  clear he
  obtain ⟨b0,b1,b2,b3,b4,b5,b6,bf⟩:=zC HB0.out
  have hst:=LH (zc (.int .i64 0) (.int .i64 0) (.int .i64 0) (.int .i64 0) (.int .i64 0) (.int .i64 0) (.int .i64 0) HG.out (by omega) HB0.out)
  go_wp2
  (try simp only [Exit.inBlock,Exit.then])
  obtain ⟨r0,r1,r2,r3,r4,r5,r6,rf⟩:=zC hst.out.1
  refine bodyPost_ret (v:=.tuple #[.agg (),.int .u16 (ptrWords (obP (obOf p seg at_))).2]) ?_ rfl ⟨?_,hst.out.2⟩
  ·rw [results_cell_tmp rfl];go_simp
  ·rw [E.out] <;> rfl
theorem zeF {sv:Value} {sz:List Int} {wd:Int→Int→Int×Int} {w:World} (h:Sou sv sz wd w) (ho:SouOk sz wd) (p:Pt) (hp:PtOk p):Calls Tryz.prog 263 #[sv,.agg p] w (ObPost (landedP sz wd p) w):=by
 obtain ⟨T,pv,fw,fs,r,rfl,-⟩:=h.out
 obtain ⟨hP,hB0,hG⟩:=zU w (.cells p 120) (.cells () 257)
 have HB0:=LH hB0
 have HP:=LH hP
 have HG:=LH hG
 have HS:=LH (h.grow HG.out)
 have HSO:=LH ho
 have HQ:=LH (zVB ho p.seg p.off)
 obtain ⟨a0,a1,a2,a3,a4,a5,a6,a7,af⟩:=zP hP
 have po1:=hp.o.1
 have po2:=hp.o.2
 clear h ho hP hB0 hG hp
 go_enter Tryz.func263,Tryz.ntmps263
 go_wp2_with fail
 refine (zbC HS.out HSO.out p.seg p.off).mono ?_
 rintro e w1 ⟨rfl,hg⟩
 replace HB0:=LH (hg.heap HB0.out)
 replace HP:=LH (hg.heap HP.out)
 replace HG:=LH (HG.out.grow hg)
 replace HS:=LH (HS.out.grow hg)
 clear hg
 clear a0 a1 a2 a3 a4 a5 a6 a7 af
 have E0:Hid (landedP sz wd p=if (ptrAt wd p.seg p.off).2=0 then if isNear (ptrAt wd p.seg p.off).1 then foundP sz (ptrAt wd p.seg p.off).1 p.seg (p.off+1+(ptrAt wd p.seg p.off).1.off) else (ob0,23) else (ob0,(ptrAt wd p.seg p.off).2)):=LH rfl
 generalize (ptrAt wd p.seg p.off).1=q at *
 generalize (ptrAt wd p.seg p.off).2=qe at *
 have hgq:=(Keep.refl NoB w1).alloc (.cells q 120)
 have hQ:=heap_alloc_new w1 (.cells q 120)
 replace HB0:=LH (Grow.heap hgq HB0.out)
 replace HP:=LH (Grow.heap hgq HP.out)
 replace HG:=LH (HG.out.grow hgq)
 replace HS:=LH (HS.out.grow hgq)
 have HQC:=LH hQ
 obtain ⟨q0,q1,q2,q3,q4,q5,q6,q7,qf⟩:=zP hQ
 clear hgq hQ
 by_cases he:qe=0
 ·subst he
  go_wp2_with fail
  refine (zzB q _).mono ?_
  rintro e w2 ⟨rfl,hg⟩
  replace HB0:=LH (hg.heap HB0.out)
  replace HP:=LH (hg.heap HP.out)
  replace HQC:=LH (hg.heap HQC.out)
  replace HG:=LH (HG.out.grow hg)
  replace HS:=LH (HS.out.grow hg)
  clear hg
  clear q0 q1 q2 q3 q4 q5 q6 q7 qf
  cases hn:isNear q with
  | false =>
   have E:Hid (landedP sz wd p=(ob0,23)):=LH (by rw [E0.out];simp [hn])
   clear hn
   obtain ⟨b0,b1,b2,b3,b4,b5,b6,bf⟩:=zC HB0.out
   have hst:=LH (zc (.int .i64 0) (.int .i64 0) (.int .i64 0) (.int .i64 0) (.int .i64 0) (.int .i64 0) (.int .i64 0) HG.out (by omega) HB0.out)
   go_wp2
   (try simp only [Exit.inBlock,Exit.then])
   obtain ⟨r0,r1,r2,r3,r4,r5,r6,rf⟩:=zC hst.out.1
   refine bodyPost_ret (v:=.tuple #[.agg (),.int .u16 23]) ?_ rfl ⟨?_,hst.out.2⟩
   ·rw [results_cell_tmp rfl];go_simp
   ·rw [E.out] <;> rfl
  | true =>
   have E:Hid (landedP sz wd p=foundP sz q p.seg (p.off+1+q.off)):=LH (by rw [E0.out];simp [hn])
   clear hn
   obtain ⟨q0,q1,q2,q3,q4,q5,q6,q7,qf⟩:=zP HQC.out
   obtain ⟨a0,a1,a2,a3,a4,a5,a6,a7,af⟩:=zP HP.out
   have qo1:=HQ.out.o.1
   have qo2:=HQ.out.o.2
   go_wp2_with fail
   refine (zAC HS.out HSO.out q HQ.out p.seg (p.off+1+q.off) (by omega)).mono ?_
   rintro e w3 ⟨rfl,hg⟩
   replace HB0:=LH (hg.heap HB0.out)
   replace HG:=LH (HG.out.grow hg)
   replace HS:=LH (HS.out.grow hg)
   clear hg
   obtain ⟨b0,b1,b2,b3,b4,b5,b6,bf⟩:=zC HB0.out
   have hst:=LH (zc (.int .i64 (foundP sz q p.seg (p.off+1+q.off)).1.kind) (.int .i64 (foundP sz q p.seg (p.off+1+q.off)).1.seg) (.int .i64 (foundP sz q p.seg (p.off+1+q.off)).1.at_) (.int .i64 (foundP sz q p.seg (p.off+1+q.off)).1.data) (.int .i64 (foundP sz q p.seg (p.off+1+q.off)).1.ptrs) (.int .i64 (foundP sz q p.seg (p.off+1+q.off)).1.size) (.int .i64 (foundP sz q p.seg (p.off+1+q.off)).1.count) HG.out (by omega) HB0.out)
   go_wp2
   (try simp only [Exit.inBlock,Exit.then])
   obtain ⟨r0,r1,r2,r3,r4,r5,r6,rf⟩:=zC hst.out.1
   refine bodyPost_ret (v:=.tuple #[.agg (foundP sz q p.seg (p.off+1+q.off)).1,.int .u16 (foundP sz q p.seg (p.off+1+q.off)).2]) ?_ rfl ⟨?_,hst.out.2⟩
   ·rw [results_cell_tmp rfl];go_simp
   ·rw [E.out] <;> rfl
 ·have eb:(qe != 0)=true:=by simp [he]
  have E:Hid (landedP sz wd p=(ob0,qe)):=LH (by rw [E0.out,if_neg he])
  clear he
  obtain ⟨b0,b1,b2,b3,b4,b5,b6,bf⟩:=zC HB0.out
  have hst:=LH (zc (.int .i64 0) (.int .i64 0) (.int .i64 0) (.int .i64 0) (.int .i64 0) (.int .i64 0) (.int .i64 0) HG.out (by omega) HB0.out)
  go_wp2
  (try simp only [Exit.inBlock,Exit.then])
  obtain ⟨r0,r1,r2,r3,r4,r5,r6,rf⟩:=zC hst.out.1
  refine bodyPost_ret (v:=.tuple #[.agg (),.int .u16 qe]) ?_ rfl ⟨?_,hst.out.2⟩
  ·rw [results_cell_tmp rfl];go_simp
  ·rw [E.out] <;> rfl
theorem zqG {sv:Value} {sz:List Int} {wd:Int→Int→Int×Int} {w:World} (h:Sou sv sz wd w) (ho:SouOk sz wd) (p:Pt) (hp:PtOk p):Calls Tryz.prog 262 #[sv,.agg p] w (ObPost (twiceP sz wd p) w):=by
 obtain ⟨T,pv,fw,fs,r,rfl,h2,h3,k1,k2,h4,h5⟩:=h.out
 obtain ⟨hP,hB0,hG⟩:=zU w (.cells p 120) (.cells () 257)
 have HB0:=LH hB0
 have HP:=LH hP
 have HG:=LH hG
 have H4:=LH h4
 have HS:=LH (h.grow HG.out)
 have HSO:=LH ho
 have HV1:=LH (ho.val p.seg p.off)
 have HV2:=LH (ho.val p.seg (p.off+1))
 have E0:Hid (twiceP sz wd p=(  if (wd p.seg p.off).2=0 then     if (wd p.seg (p.off+1)).2=0 then       if (ptrDec (wd p.seg p.off).1).2=0 then         if (ptrDec (wd p.seg (p.off+1)).1).2=0 then           if (ptrDec (wd p.seg p.off).1).1.kind=3∧(ptrDec (wd p.seg p.off).1).1.dbl=false∧isNear (ptrDec (wd p.seg (p.off+1)).1).1=true∧(ptrDec (wd p.seg (p.off+1)).1).1.off=0 then             foundP sz (ptrDec (wd p.seg (p.off+1)).1).1 (ptrDec (wd p.seg p.off).1).1.seg (ptrDec (wd p.seg p.off).1).1.off           else (ob0,23)         else (ob0,(ptrDec (wd p.seg (p.off+1)).1).2)       else (ob0,(ptrDec (wd p.seg p.off).1).2)     else (ob0,(wd p.seg (p.off+1)).2)   else (ob0,(wd p.seg p.off).2) )):=LH rfl
 obtain ⟨a0,a1,a2,a3,a4,a5,a6,a7,af⟩:=zP hP
 have po1:=hp.o.1
 have po2:=hp.o.2
 clear h ho hP hB0 hG hp h3 h4 h5 k2
 go_enter Tryz.func262,Tryz.ntmps262
 go_wp2_with fail
 refine (H4.out _ HG.out p.seg p.off).mono ?_
 rintro e w1 ⟨rfl,hg⟩
 replace HB0:=LH (hg.heap HB0.out)
 replace HP:=LH (hg.heap HP.out)
 replace HG:=LH (HG.out.grow hg)
 replace HS:=LH (HS.out.grow hg)
 clear hg
 clear a0 a1 a2 a3 a4 a5 a6 a7 af
 generalize wd p.seg p.off=x1 at *
 obtain ⟨x1,y1⟩:=x1
 by_cases he:y1=0
 case neg =>
  have eb:(y1 != 0)=true:=by simp [he]
  have E:Hid (twiceP sz wd p=(ob0,y1)):=LH (by rw [E0.out];simp [he])
  clear he
  obtain ⟨b0,b1,b2,b3,b4,b5,b6,bf⟩:=zC HB0.out
  have hst:=LH (zc (.int .i64 0) (.int .i64 0) (.int .i64 0) (.int .i64 0) (.int .i64 0) (.int .i64 0) (.int .i64 0) HG.out (by omega) HB0.out)
  go_wp2
  (try simp only [Exit.inBlock,Exit.then])
  obtain ⟨r0,r1,r2,r3,r4,r5,r6,rf⟩:=zC hst.out.1
  refine bodyPost_ret (v:=.tuple #[.agg (),.int .u16 y1]) ?_ rfl ⟨?_,hst.out.2⟩
  ·rw [results_cell_tmp rfl];go_simp
  ·rw [E.out] <;> rfl
 subst he
 obtain ⟨a0,a1,a2,a3,a4,a5,a6,a7,af⟩:=zP HP.out
 go_wp2_with fail
 refine (H4.out _ HG.out p.seg (p.off+1)).mono ?_
 rintro e w2 ⟨rfl,hg⟩
 replace HB0:=LH (hg.heap HB0.out)
 replace HP:=LH (hg.heap HP.out)
 replace HG:=LH (HG.out.grow hg)
 replace HS:=LH (HS.out.grow hg)
 clear hg
 clear a0 a1 a2 a3 a4 a5 a6 a7 af
 generalize wd p.seg (p.off+1)=x2 at *
 obtain ⟨x2,y2⟩:=x2
 by_cases he:y2=0
 case neg =>
  have eb:(y2 != 0)=true:=by simp [he]
  have E:Hid (twiceP sz wd p=(ob0,y2)):=LH (by rw [E0.out];simp [he])
  clear he
  obtain ⟨b0,b1,b2,b3,b4,b5,b6,bf⟩:=zC HB0.out
  have hst:=LH (zc (.int .i64 0) (.int .i64 0) (.int .i64 0) (.int .i64 0) (.int .i64 0) (.int .i64 0) (.int .i64 0) HG.out (by omega) HB0.out)
  go_wp2
  (try simp only [Exit.inBlock,Exit.then])
  obtain ⟨r0,r1,r2,r3,r4,r5,r6,rf⟩:=zC hst.out.1
  refine bodyPost_ret (v:=.tuple #[.agg (),.int .u16 y2]) ?_ rfl ⟨?_,hst.out.2⟩
  ·rw [results_cell_tmp rfl];go_simp
  ·rw [E.out] <;> rfl
 subst he
 go_wp2_with fail
 refine (zOC x1 _ HV1.out.1 HV1.out.2).mono ?_
 rintro e w3 ⟨rfl,hg⟩
 replace HB0:=LH (hg.heap HB0.out)
 replace HP:=LH (hg.heap HP.out)
 replace HG:=LH (HG.out.grow hg)
 replace HS:=LH (HS.out.grow hg)
 clear hg
 have HQ1:=LH (zeB x1 HV1.out.1)
 generalize (ptrDec x1).1=q at *
 generalize (ptrDec x1).2=y3 at *
 have hgq:=(Keep.refl NoB w3).alloc (.cells q 120)
 have hQq:=heap_alloc_new w3 (.cells q 120)
 replace HB0:=LH (Grow.heap hgq HB0.out)
 replace HP:=LH (Grow.heap hgq HP.out)
 replace HG:=LH (HG.out.grow hgq)
 replace HS:=LH (HS.out.grow hgq)
 have HQC:=LH hQq
 clear hgq hQq
 by_cases he:y3=0
 case neg =>
  have eb:(y3 != 0)=true:=by simp [he]
  have E:Hid (twiceP sz wd p=(ob0,y3)):=LH (by rw [E0.out];simp [he])
  clear he
  obtain ⟨b0,b1,b2,b3,b4,b5,b6,bf⟩:=zC HB0.out
  have hst:=LH (zc (.int .i64 0) (.int .i64 0) (.int .i64 0) (.int .i64 0) (.int .i64 0) (.int .i64 0) (.int .i64 0) HG.out (by omega) HB0.out)
  go_wp2
  (try simp only [Exit.inBlock,Exit.then])
  obtain ⟨r0,r1,r2,r3,r4,r5,r6,rf⟩:=zC hst.out.1
  refine bodyPost_ret (v:=.tuple #[.agg (),.int .u16 y3]) ?_ rfl ⟨?_,hst.out.2⟩
  ·rw [results_cell_tmp rfl];go_simp
  ·rw [E.out] <;> rfl
 subst he
 go_wp2_with fail
 refine (zOC x2 _ HV2.out.1 HV2.out.2).mono ?_
 rintro e w4 ⟨rfl,hg⟩
 replace HB0:=LH (hg.heap HB0.out)
 replace HP:=LH (hg.heap HP.out)
 replace HQC:=LH (hg.heap HQC.out)
 replace HG:=LH (HG.out.grow hg)
 replace HS:=LH (HS.out.grow hg)
 clear hg
 have HQ2:=LH (zeB x2 HV2.out.1)
 generalize (ptrDec x2).1=s at *
 generalize (ptrDec x2).2=y4 at *
 have hgs:=(Keep.refl NoB w4).alloc (.cells s 120)
 have hQs:=heap_alloc_new w4 (.cells s 120)
 replace HB0:=LH (Grow.heap hgs HB0.out)
 replace HP:=LH (Grow.heap hgs HP.out)
 replace HG:=LH (HG.out.grow hgs)
 replace HS:=LH (HS.out.grow hgs)
 have HQD:=LH hQs
 replace HQC:=LH (Grow.heap hgs HQC.out)
 clear hgs hQs
 by_cases he:y4=0
 case neg =>
  have eb:(y4 != 0)=true:=by simp [he]
  have E:Hid (twiceP sz wd p=(ob0,y4)):=LH (by rw [E0.out];simp [he])
  clear he
  obtain ⟨b0,b1,b2,b3,b4,b5,b6,bf⟩:=zC HB0.out
  have hst:=LH (zc (.int .i64 0) (.int .i64 0) (.int .i64 0) (.int .i64 0) (.int .i64 0) (.int .i64 0) (.int .i64 0) HG.out (by omega) HB0.out)
  go_wp2
  (try simp only [Exit.inBlock,Exit.then])
  obtain ⟨r0,r1,r2,r3,r4,r5,r6,rf⟩:=zC hst.out.1
  refine bodyPost_ret (v:=.tuple #[.agg (),.int .u16 y4]) ?_ rfl ⟨?_,hst.out.2⟩
  ·rw [results_cell_tmp rfl];go_simp
  ·rw [E.out] <;> rfl
 subst he
 have E1:Hid (twiceP sz wd p=if q.kind=3∧q.dbl=false∧isNear s=true∧s.off=0 then foundP sz s q.seg q.off else (ob0,23)):=LH (by rw [E0.out];simp)
 obtain ⟨q0,q1,q2,q3,q4,q5,q6,q7,qf⟩:=zP HQC.out
 obtain ⟨s0,s1,s2,s3,s4,s5,s6,s7,sf⟩:=zP HQD.out
 by_cases hk:q.kind=3
 case neg =>
  have eb:(q.kind != 3)=true:=by simp [hk]
  have E:Hid (twiceP sz wd p=(ob0,23)):=LH (by rw [E1.out,if_neg (fun h=>hk h.1)])
  clear hk
  obtain ⟨b0,b1,b2,b3,b4,b5,b6,bf⟩:=zC HB0.out
  have hst:=LH (zc (.int .i64 0) (.int .i64 0) (.int .i64 0) (.int .i64 0) (.int .i64 0) (.int .i64 0) (.int .i64 0) HG.out (by omega) HB0.out)
  go_wp2
  (try simp only [Exit.inBlock,Exit.then])
  obtain ⟨r0,r1,r2,r3,r4,r5,r6,rf⟩:=zC hst.out.1
  refine bodyPost_ret (v:=.tuple #[.agg (),.int .u16 23]) ?_ rfl ⟨?_,hst.out.2⟩
  ·rw [results_cell_tmp rfl];go_simp
  ·rw [E.out] <;> rfl
 have ek:(q.kind != 3)=false:=by simp [hk]
 cases hb:q.dbl with
 | true =>
  have E:Hid (twiceP sz wd p=(ob0,23)):=LH (by rw [E1.out,if_neg (fun h=>by rw [hb] at h;cases h.2.1)])
  clear hk
  obtain ⟨b0,b1,b2,b3,b4,b5,b6,bf⟩:=zC HB0.out
  have hst:=LH (zc (.int .i64 0) (.int .i64 0) (.int .i64 0) (.int .i64 0) (.int .i64 0) (.int .i64 0) (.int .i64 0) HG.out (by omega) HB0.out)
  go_wp2
  (try simp only [Exit.inBlock,Exit.then])
  obtain ⟨r0,r1,r2,r3,r4,r5,r6,rf⟩:=zC hst.out.1
  refine bodyPost_ret (v:=.tuple #[.agg (),.int .u16 23]) ?_ rfl ⟨?_,hst.out.2⟩
  ·rw [results_cell_tmp rfl];go_simp
  ·rw [E.out] <;> rfl
 | false =>
  go_wp2_with fail
  refine (zzB s _).mono ?_
  rintro e w5 ⟨rfl,hg⟩
  replace HB0:=LH (hg.heap HB0.out)
  replace HP:=LH (hg.heap HP.out)
  replace HQC:=LH (hg.heap HQC.out)
  replace HQD:=LH (hg.heap HQD.out)
  replace HG:=LH (HG.out.grow hg)
  replace HS:=LH (HS.out.grow hg)
  clear hg
  clear s0 s1 s2 s3 s4 s5 s6 s7 sf q0 q1 q2 q3 q4 q5 q6 q7 qf
  obtain ⟨q0,q1,q2,q3,q4,q5,q6,q7,qf⟩:=zP HQC.out
  obtain ⟨s0,s1,s2,s3,s4,s5,s6,s7,sf⟩:=zP HQD.out
  cases hn:isNear s with
  | false =>
   have E:Hid (twiceP sz wd p=(ob0,23)):=LH (by rw [E1.out,if_neg (fun h=>by rw [hn] at h;cases h.2.2.1)])
   clear hn hk
   obtain ⟨b0,b1,b2,b3,b4,b5,b6,bf⟩:=zC HB0.out
   have hst:=LH (zc (.int .i64 0) (.int .i64 0) (.int .i64 0) (.int .i64 0) (.int .i64 0) (.int .i64 0) (.int .i64 0) HG.out (by omega) HB0.out)
   go_wp2
   (try simp only [Exit.inBlock,Exit.then])
   obtain ⟨r0,r1,r2,r3,r4,r5,r6,rf⟩:=zC hst.out.1
   refine bodyPost_ret (v:=.tuple #[.agg (),.int .u16 23]) ?_ rfl ⟨?_,hst.out.2⟩
   ·rw [results_cell_tmp rfl];go_simp
   ·rw [E.out] <;> rfl
  | true =>
   by_cases hf:s.off=0
   case neg =>
    have eb:(s.off != 0)=true:=by simp [hf]
    have E:Hid (twiceP sz wd p=(ob0,23)):=LH (by rw [E1.out,if_neg (fun h=>hf h.2.2.2)])
    clear hn hk hf
    obtain ⟨b0,b1,b2,b3,b4,b5,b6,bf⟩:=zC HB0.out
    have hst:=LH (zc (.int .i64 0) (.int .i64 0) (.int .i64 0) (.int .i64 0) (.int .i64 0) (.int .i64 0) (.int .i64 0) HG.out (by omega) HB0.out)
    go_wp2
    (try simp only [Exit.inBlock,Exit.then])
    obtain ⟨r0,r1,r2,r3,r4,r5,r6,rf⟩:=zC hst.out.1
    refine bodyPost_ret (v:=.tuple #[.agg (),.int .u16 23]) ?_ rfl ⟨?_,hst.out.2⟩
    ·rw [results_cell_tmp rfl];go_simp
    ·rw [E.out] <;> rfl
   have eb:(s.off != 0)=false:=by simp [hf]
   have E:Hid (twiceP sz wd p=foundP sz s q.seg q.off):=LH (by rw [E1.out,if_pos ⟨hk,hb,hn,hf⟩])
   have qo1:=HQ1.out.o.1
   clear hn hk hf
   go_wp2_with fail
   refine (zAC HS.out HSO.out s HQ2.out q.seg q.off (by omega)).mono ?_
   rintro e w6 ⟨rfl,hg⟩
   replace HB0:=LH (hg.heap HB0.out)
   replace HG:=LH (HG.out.grow hg)
   replace HS:=LH (HS.out.grow hg)
   clear hg
   obtain ⟨b0,b1,b2,b3,b4,b5,b6,bf⟩:=zC HB0.out
   have hst:=LH (zc (.int .i64 (foundP sz s q.seg q.off).1.kind) (.int .i64 (foundP sz s q.seg q.off).1.seg) (.int .i64 (foundP sz s q.seg q.off).1.at_) (.int .i64 (foundP sz s q.seg q.off).1.data) (.int .i64 (foundP sz s q.seg q.off).1.ptrs) (.int .i64 (foundP sz s q.seg q.off).1.size) (.int .i64 (foundP sz s q.seg q.off).1.count) HG.out (by omega) HB0.out)
   go_wp2
   (try simp only [Exit.inBlock,Exit.then])
   obtain ⟨r0,r1,r2,r3,r4,r5,r6,rf⟩:=zC hst.out.1
   refine bodyPost_ret (v:=.tuple #[.agg (foundP sz s q.seg q.off).1,.int .u16 (foundP sz s q.seg q.off).2]) ?_ rfl ⟨?_,hst.out.2⟩
   ·rw [results_cell_tmp rfl];go_simp
   ·rw [E.out] <;> rfl
theorem zCI {wd:Int→Int→Int×Int} {seg at_:Int} (h:(ptrAt wd seg at_).2=0):(wd seg at_).2=0:=by
 unfold ptrAt at h
 split at h
 ·assumption
 ·exact h
theorem zy {sv:Value} {sz:List Int} {wd:Int→Int→Int×Int} {w:World} (h:Sou sv sz wd w) (ho:SouOk sz wd) (seg at_:Int):Calls Tryz.prog 233 #[sv,.int .i64 seg,.int .i64 at_] w (ObPost (followP sz wd seg at_) w):=by
 obtain ⟨T,pv,fw,fs,r,rfl,-⟩:=h.out
 have HG:=LH ((Keep.refl NoB w).alloc (.cells () 257))
 have HB0:=LH (heap_alloc_new w (.cells () 257))
 have HS:=LH (h.grow HG.out)
 have HSO:=LH ho
 have HQ:=LH (zVB ho seg at_)
 have HI:=LH (fun h=>ho.inb seg at_ (zCI h))
 have E0:Hid (followP sz wd seg at_=_):=LH (by unfold followP;exact rfl)
 clear h ho
 go_enter Tryz.func233,Tryz.ntmps233
 go_wp2_with fail
 refine (zbC HS.out HSO.out seg at_).mono ?_
 rintro e w1 ⟨rfl,hg⟩
 replace HB0:=LH (hg.heap HB0.out)
 replace HG:=LH (HG.out.grow hg)
 replace HS:=LH (HS.out.grow hg)
 clear hg
 generalize (ptrAt wd seg at_).1=p at *
 generalize (ptrAt wd seg at_).2=y at *
 have hgp:=(Keep.refl NoB w1).alloc (.cells p 120)
 have hQp:=heap_alloc_new w1 (.cells p 120)
 replace HB0:=LH (Grow.heap hgp HB0.out)
 replace HG:=LH (HG.out.grow hgp)
 replace HS:=LH (HS.out.grow hgp)
 have HQC:=LH hQp
 obtain ⟨q0,q1,q2,q3,q4,q5,q6,q7,qf⟩:=zP hQp
 clear hgp hQp
 by_cases he:y=0
 case neg =>
  have eb:(y != 0)=true:=by simp [he]
  have E:Hid (followP sz wd seg at_=(ob0,y)):=LH (by rw [E0.out];simp [he])
  clear he
  obtain ⟨b0,b1,b2,b3,b4,b5,b6,bf⟩:=zC HB0.out
  have hst:=LH (zc (.int .i64 0) (.int .i64 0) (.int .i64 0) (.int .i64 0) (.int .i64 0) (.int .i64 0) (.int .i64 0) HG.out (by omega) HB0.out)
  go_wp2
  (try simp only [Exit.inBlock,Exit.then])
  obtain ⟨r0,r1,r2,r3,r4,r5,r6,rf⟩:=zC hst.out.1
  refine bodyPost_ret (v:=.tuple #[.agg (),.int .u16 y]) ?_ rfl ⟨?_,hst.out.2⟩
  ·rw [results_cell_tmp rfl];go_simp
  ·rw [E.out] <;> rfl
 subst he
 by_cases hk:p.kind=0
 ·have eb:(p.kind==0)=true:=by simp [hk]
  have E:Hid (followP sz wd seg at_=(ob0,0)):=LH (by rw [E0.out];simp [hk])
  clear hk
  obtain ⟨b0,b1,b2,b3,b4,b5,b6,bf⟩:=zC HB0.out
  have hst:=LH (zc (.int .i64 0) (.int .i64 0) (.int .i64 0) (.int .i64 0) (.int .i64 0) (.int .i64 0) (.int .i64 0) HG.out (by omega) HB0.out)
  go_wp2
  (try simp only [Exit.inBlock,Exit.then])
  obtain ⟨r0,r1,r2,r3,r4,r5,r6,rf⟩:=zC hst.out.1
  refine bodyPost_ret (v:=.tuple #[.agg (),.int .u16 0]) ?_ rfl ⟨?_,hst.out.2⟩
  ·rw [results_cell_tmp rfl];go_simp
  ·rw [E.out] <;> rfl
 have ek:(p.kind==0)=false:=by simp [hk]
 have Hk:=LH hk
 clear hk
 go_wp2_with fail
 refine (zzB p _).mono ?_
 rintro e w2 ⟨rfl,hg⟩
 replace HB0:=LH (hg.heap HB0.out)
 replace HQC:=LH (hg.heap HQC.out)
 replace HG:=LH (HG.out.grow hg)
 replace HS:=LH (HS.out.grow hg)
 clear hg
 clear q0 q1 q2 q3 q4 q5 q6 q7 qf
 obtain ⟨q0,q1,q2,q3,q4,q5,q6,q7,qf⟩:=zP HQC.out
 cases hn:isNear p with
 | true =>
  have E:Hid (followP sz wd seg at_=foundP sz p seg (at_+1+p.off)):=LH (by rw [E0.out];simp [hn,Hk.out])
  have hi:=HI.out (by simp)
  have at0:=hi.2.1
  have at1:=hi.2.2
  have qo1:=HQ.out.o.1
  have qo2:=HQ.out.o.2
  clear hn hi
  go_wp2_with fail
  refine (zAC HS.out HSO.out p HQ.out seg (at_+1+p.off) (by omega)).mono ?_
  rintro e w3 ⟨rfl,hg⟩
  replace HB0:=LH (hg.heap HB0.out)
  replace HG:=LH (HG.out.grow hg)
  replace HS:=LH (HS.out.grow hg)
  clear hg
  obtain ⟨b0,b1,b2,b3,b4,b5,b6,bf⟩:=zC HB0.out
  have hst:=LH (zc (.int .i64 (foundP sz p seg (at_+1+p.off)).1.kind) (.int .i64 (foundP sz p seg (at_+1+p.off)).1.seg) (.int .i64 (foundP sz p seg (at_+1+p.off)).1.at_) (.int .i64 (foundP sz p seg (at_+1+p.off)).1.data) (.int .i64 (foundP sz p seg (at_+1+p.off)).1.ptrs) (.int .i64 (foundP sz p seg (at_+1+p.off)).1.size) (.int .i64 (foundP sz p seg (at_+1+p.off)).1.count) HG.out (by omega) HB0.out)
  go_wp2
  (try simp only [Exit.inBlock,Exit.then])
  obtain ⟨r0,r1,r2,r3,r4,r5,r6,rf⟩:=zC hst.out.1
  refine bodyPost_ret (v:=.tuple #[.agg (foundP sz p seg (at_+1+p.off)).1,.int .u16 (foundP sz p seg (at_+1+p.off)).2]) ?_ rfl ⟨?_,hst.out.2⟩
  ·rw [results_cell_tmp rfl];go_simp
  ·rw [E.out] <;> rfl
 | false =>
  cases hd:p.dbl with
  | true =>
   have E:Hid (followP sz wd seg at_=twiceP sz wd p):=LH (by rw [E0.out];simp [hn,Hk.out,hd])
   clear hn
   go_wp2_with fail
   have ht:=zqG HS.out HSO.out p HQ.out
   rw [hd] at ht
   refine (ht).mono ?_
   rintro e w3 ⟨rfl,hg⟩
   replace HB0:=LH (hg.heap HB0.out)
   replace HG:=LH (HG.out.grow hg)
   replace HS:=LH (HS.out.grow hg)
   clear hg
   obtain ⟨b0,b1,b2,b3,b4,b5,b6,bf⟩:=zC HB0.out
   have hst:=LH (zc (.int .i64 (twiceP sz wd p).1.kind) (.int .i64 (twiceP sz wd p).1.seg) (.int .i64 (twiceP sz wd p).1.at_) (.int .i64 (twiceP sz wd p).1.data) (.int .i64 (twiceP sz wd p).1.ptrs) (.int .i64 (twiceP sz wd p).1.size) (.int .i64 (twiceP sz wd p).1.count) HG.out (by omega) HB0.out)
   go_wp2
   (try simp only [Exit.inBlock,Exit.then])
   obtain ⟨r0,r1,r2,r3,r4,r5,r6,rf⟩:=zC hst.out.1
   refine bodyPost_ret (v:=.tuple #[.agg (twiceP sz wd p).1,.int .u16 (twiceP sz wd p).2]) ?_ rfl ⟨?_,hst.out.2⟩
   ·rw [results_cell_tmp rfl];go_simp
   ·rw [E.out] <;> rfl
  | false =>
   have E:Hid (followP sz wd seg at_=landedP sz wd p):=LH (by rw [E0.out];simp [hn,Hk.out,hd])
   clear hn
   go_wp2_with fail
   have ht:=zeF HS.out HSO.out p HQ.out
   rw [hd] at ht
   refine (ht).mono ?_
   rintro e w3 ⟨rfl,hg⟩
   replace HB0:=LH (hg.heap HB0.out)
   replace HG:=LH (HG.out.grow hg)
   replace HS:=LH (HS.out.grow hg)
   clear hg
   obtain ⟨b0,b1,b2,b3,b4,b5,b6,bf⟩:=zC HB0.out
   have hst:=LH (zc (.int .i64 (landedP sz wd p).1.kind) (.int .i64 (landedP sz wd p).1.seg) (.int .i64 (landedP sz wd p).1.at_) (.int .i64 (landedP sz wd p).1.data) (.int .i64 (landedP sz wd p).1.ptrs) (.int .i64 (landedP sz wd p).1.size) (.int .i64 (landedP sz wd p).1.count) HG.out (by omega) HB0.out)
   go_wp2
   (try simp only [Exit.inBlock,Exit.then])
   obtain ⟨r0,r1,r2,r3,r4,r5,r6,rf⟩:=zC hst.out.1
   refine bodyPost_ret (v:=.tuple #[.agg (landedP sz wd p).1,.int .u16 (landedP sz wd p).2]) ?_ rfl ⟨?_,hst.out.2⟩
   ·rw [results_cell_tmp rfl];go_simp
   ·rw [E.out] <;> rfl
end Go.Proofs.YtfkcpaahdlkcdaaGreat

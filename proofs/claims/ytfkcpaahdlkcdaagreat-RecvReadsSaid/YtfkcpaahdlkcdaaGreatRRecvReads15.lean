import Derived.Test.YtfkcpaahdlkcdaaGreatRRecvReads11
set_option linter.unusedSimpArgs false
set_option linter.unusedVariables false
set_option maxRecDepth 100000
set_option maxHeartbeats 16000000
namespace Go.Proofs.YtfkcpaahdlkcdaaGreat
open Go.RowKit
def EncPost (w:World) (e:Ending) (w':World):Prop:=∃ x r:Int,e=.returned (.tuple #[.int .u64 x,.int .i64 r])∧0≤x∧x≤18446744073709551615∧Grow w w'
theorem zPJ (p:Pt) (w:World) (hk:p.kind≠1∧p.kind≠2∧p.kind≠3):Calls Tryz.prog 58 #[.agg p] w (EncPost w):=by
 have HG:=LH ((Keep.refl NoB w).alloc (.cells p 120))
 have HC:=LH (heap_alloc_new w (.cells p 120))
 have k1:(p.kind==1)=false:=by rw [beq_eq_false_iff_ne];omega
 have k2:(p.kind==2)=false:=by rw [beq_eq_false_iff_ne];omega
 have k3:(p.kind==3)=false:=by rw [beq_eq_false_iff_ne];omega
 clear hk
 go_enter Tryz.func58,Tryz.ntmps58
 go_wp2_with fail
 refine (zcA _ _ ((⟨by omega,by omega⟩:(0:Int)≤0∧(0:Int)≤18446744073709551615)).1 ((⟨by omega,by omega⟩:(0:Int)≤0∧(0:Int)≤18446744073709551615)).2).mono ?_
 rintro e w9 ⟨rfl,hg9⟩
 replace HG:=LH (HG.out.grow hg9)
 replace HC:=LH (Grow.heap hg9 HC.out)
 have HXB:=LH ((⟨by omega,by omega⟩:(0:Int)≤0∧(0:Int)≤18446744073709551615))
 generalize ptrDec (0)=R at hg9 ⊢
 clear hg9
 obtain ⟨z0,z1,z2,z3,z4,z5,z6,z7,zf⟩:=zP HC.out
 have hlt9:=(gE HC.out).1
 have hne9:w9.heap.size≠w.heap.size:=by omega
 have hne8:w.heap.size≠w9.heap.size:=by omega
 go_wp2
 all_goals
  go_ret2
  refine ⟨_,_,rfl,?_,?_,HG.out.alloc _⟩ <;> first | exact HXB.out.1 | exact HXB.out.2 | omega
theorem zBH (p:Pt) (w:World) (hk:p.kind=1):Calls Tryz.prog 58 #[.agg p] w (EncPost w):=by
 have HG:=LH ((Keep.refl NoB w).alloc (.cells p 120))
 have HC:=LH (heap_alloc_new w (.cells p 120))
 have k1:(p.kind==1)=true:=by rw [beq_iff_eq];omega
 have k2:(p.kind==2)=false:=by rw [beq_eq_false_iff_ne];omega
 have k3:(p.kind==3)=false:=by rw [beq_eq_false_iff_ne];omega
 clear hk
 go_enter Tryz.func58,Tryz.ntmps58
 go_wp2
 generalize w.alloc (.cells p 120)=w1 at HG HC ⊢
 generalize w.heap.size=B at HC ⊢
 obtain ⟨z0,z1,z2,z3,z4,z5,z6,z7,zf⟩:=zP HC.out
 refine zE [0,1,4,5,9,10,2,3,6,7,8,11,12,13,14] [2,6,11,14] [1,5,10] [] rfl (by kernel_rfl) ?_
 refine ord_p ?_
 refine oc1 z1 ?_
 refine ord_p ?_
 refine oc1 z2 ?_
 refine ord_p ?_
 refine oc1 z3 ?_
 refine zG rfl rfl rfl rfl rfl Tryz.func128 rfl rfl [.int .i64 p.off,.int .i64 30] rfl ?_
 refine (zDA p.off 30 _ (by omega)).mono ?_
 rintro e w' ⟨rfl,rfl⟩
 refine ⟨_,rfl,fun _=>Keep.refl _ _,?_⟩
 simp only [Act.put,pB,pC,pD]
 refine ord_p ?_
 refine zG rfl rfl rfl rfl rfl Tryz.func128 rfl rfl [.int .i64 p.data,.int .i64 16] rfl ?_
 refine (zDA p.data 16 _ (by omega)).mono ?_
 rintro e w' ⟨rfl,rfl⟩
 refine ⟨_,rfl,fun _=>Keep.refl _ _,?_⟩
 simp only [Act.put,pB,pC,pD]
 iterate 2
  refine ord_p ?_
 refine zG rfl rfl rfl rfl rfl Tryz.func128 rfl rfl [.int .i64 p.ptrs,.int .i64 16] rfl ?_
 refine (zDA p.ptrs 16 _ (by omega)).mono ?_
 rintro e w' ⟨rfl,rfl⟩
 refine ⟨_,rfl,fun _=>Keep.refl _ _,?_⟩
 simp only [Act.put,pB,pC,pD]
 iterate 2
  refine ord_p ?_
 refine ord_s ?_
 refine zD ?_
 replace HG:=LH HG.out.drew
 replace HC:=LH (show w1.drew.heap[_]? = _ from HC.out)
 clear z0 z1 z2 z3 z4 z5 z6 z7 zf
 generalize w1.drew=w2 at HG HC ⊢
 go_wp2_with fail
 generalize hX:4*(IntKind.u64.wrap p.off%1073741824)+IntKind.u64.wrap p.data%65536*4294967296+IntKind.u64.wrap p.ptrs%65536*281474976710656=X
 have hxx:0≤X∧X≤18446744073709551615:=by omega
 clear hX
 refine (zcA _ _ (hxx).1 (hxx).2).mono ?_
 rintro e w9 ⟨rfl,hg9⟩
 replace HG:=LH (HG.out.grow hg9)
 replace HC:=LH (Grow.heap hg9 HC.out)
 have HXB:=LH (hxx)
 generalize ptrDec (X)=R at hg9 ⊢
 clear hg9
 obtain ⟨z0,z1,z2,z3,z4,z5,z6,z7,zf⟩:=zP HC.out
 have hlt9:=(gE HC.out).1
 have hne9:w9.heap.size≠B:=by omega
 have hne8:B≠w9.heap.size:=by omega
 go_wp2
 all_goals
  go_ret2
  refine ⟨_,_,rfl,?_,?_,HG.out.alloc _⟩ <;> first | exact HXB.out.1 | exact HXB.out.2 | omega
theorem zQJ (p:Pt) (w:World) (hk:p.kind=2):Calls Tryz.prog 58 #[.agg p] w (EncPost w):=by
 have HG:=LH ((Keep.refl NoB w).alloc (.cells p 120))
 have HC:=LH (heap_alloc_new w (.cells p 120))
 have k1:(p.kind==1)=false:=by rw [beq_eq_false_iff_ne];omega
 have k2:(p.kind==2)=true:=by rw [beq_iff_eq];omega
 have k3:(p.kind==3)=false:=by rw [beq_eq_false_iff_ne];omega
 clear hk
 go_enter Tryz.func58,Tryz.ntmps58
 go_wp2
 generalize w.alloc (.cells p 120)=w1 at HG HC ⊢
 generalize w.heap.size=B at HC ⊢
 obtain ⟨z0,z1,z2,z3,z4,z5,z6,z7,zf⟩:=zP HC.out
 refine zE [0,1,5,6,10,11,2,3,4,7,8,9,12,13,14,15] [2,7,12,15] [1,6,11] [] rfl (by kernel_rfl) ?_
 refine ord_p ?_
 refine oc1 z1 ?_
 refine ord_p ?_
 refine oc1 z4 ?_
 refine ord_p ?_
 refine oc1 z5 ?_
 refine zG rfl rfl rfl rfl rfl Tryz.func128 rfl rfl [.int .i64 p.off,.int .i64 30] rfl ?_
 refine (zDA p.off 30 _ (by omega)).mono ?_
 rintro e w' ⟨rfl,rfl⟩
 refine ⟨_,rfl,fun _=>Keep.refl _ _,?_⟩
 simp only [Act.put,pB,pC,pD]
 iterate 2
  refine ord_p ?_
 refine zG rfl rfl rfl rfl rfl Tryz.func128 rfl rfl [.int .i64 p.size,.int .i64 3] rfl ?_
 refine (zDA p.size 3 _ (by omega)).mono ?_
 rintro e w' ⟨rfl,rfl⟩
 refine ⟨_,rfl,fun _=>Keep.refl _ _,?_⟩
 simp only [Act.put,pB,pC,pD]
 iterate 2
  refine ord_p ?_
 refine zG rfl rfl rfl rfl rfl Tryz.func128 rfl rfl [.int .i64 p.count,.int .i64 29] rfl ?_
 refine (zDA p.count 29 _ (by omega)).mono ?_
 rintro e w' ⟨rfl,rfl⟩
 refine ⟨_,rfl,fun _=>Keep.refl _ _,?_⟩
 simp only [Act.put,pB,pC,pD]
 iterate 2
  refine ord_p ?_
 refine ord_s ?_
 refine zD ?_
 replace HG:=LH HG.out.drew
 replace HC:=LH (show w1.drew.heap[_]? = _ from HC.out)
 clear z0 z1 z2 z3 z4 z5 z6 z7 zf
 generalize w1.drew=w2 at HG HC ⊢
 go_wp2_with fail
 generalize hX:1+4*(IntKind.u64.wrap p.off%1073741824)+IntKind.u64.wrap p.size%8*4294967296+IntKind.u64.wrap p.count%536870912*34359738368=X
 have hxx:0≤X∧X≤18446744073709551615:=by omega
 clear hX
 refine (zcA _ _ (hxx).1 (hxx).2).mono ?_
 rintro e w9 ⟨rfl,hg9⟩
 replace HG:=LH (HG.out.grow hg9)
 replace HC:=LH (Grow.heap hg9 HC.out)
 have HXB:=LH (hxx)
 generalize ptrDec (X)=R at hg9 ⊢
 clear hg9
 obtain ⟨z0,z1,z2,z3,z4,z5,z6,z7,zf⟩:=zP HC.out
 have hlt9:=(gE HC.out).1
 have hne9:w9.heap.size≠B:=by omega
 have hne8:B≠w9.heap.size:=by omega
 go_wp2
 all_goals
  go_ret2
  refine ⟨_,_,rfl,?_,?_,HG.out.alloc _⟩ <;> first | exact HXB.out.1 | exact HXB.out.2 | omega
theorem zRJ (p:Pt) (w:World) (hk:p.kind=3∧p.dbl=false):Calls Tryz.prog 58 #[.agg p] w (EncPost w):=by
 have HG:=LH ((Keep.refl NoB w).alloc (.cells p 120))
 have HC:=LH (heap_alloc_new w (.cells p 120))
 have k1:(p.kind==1)=false:=by rw [beq_eq_false_iff_ne];omega
 have k2:(p.kind==2)=false:=by rw [beq_eq_false_iff_ne];omega
 have k3:(p.kind==3)=true:=by rw [beq_iff_eq];omega
 have HDB:=LH hk.2
 clear hk
 go_enter Tryz.func58,Tryz.ntmps58
 go_wp2
 generalize w.alloc (.cells p 120)=w1 at HG HC ⊢
 generalize w.heap.size=B at HC ⊢
 obtain ⟨z0,z1,z2,z3,z4,z5,z6,z7,zf⟩:=zP HC.out
 refine zE [0,1,5,6,2,3,4,7,8,9,10] [2,7,10] [1,6] [] rfl (by kernel_rfl) ?_
 refine ord_p ?_
 refine oc1 z1 ?_
 refine ord_p ?_
 refine oc1 z6 ?_
 refine zG rfl rfl rfl rfl rfl Tryz.func128 rfl rfl [.int .i64 p.off,.int .i64 29] rfl ?_
 refine (zDA p.off 29 _ (by omega)).mono ?_
 rintro e w' ⟨rfl,rfl⟩
 refine ⟨_,rfl,fun _=>Keep.refl _ _,?_⟩
 simp only [Act.put,pB,pC,pD]
 iterate 2
  refine ord_p ?_
 refine zG rfl rfl rfl rfl rfl Tryz.func128 rfl rfl [.int .i64 p.seg,.int .i64 32] rfl ?_
 refine (zDA p.seg 32 _ (by omega)).mono ?_
 rintro e w' ⟨rfl,rfl⟩
 refine ⟨_,rfl,fun _=>Keep.refl _ _,?_⟩
 simp only [Act.put,pB,pC,pD]
 iterate 2
  refine ord_p ?_
 refine ord_s ?_
 refine zD ?_
 replace HG:=LH HG.out.drew
 replace HC:=LH (show w1.drew.heap[_]? = _ from HC.out)
 clear z0 z1 z2 z3 z4 z5 z6 z7 zf
 generalize w1.drew=w2 at HG HC ⊢
 have z7:=(zP HC.out).2.2.2.2.2.2.2.1
 rw [HDB.out] at z7
 go_wp2_with fail
 generalize hX:2+8*(IntKind.u64.wrap p.off%536870912)+IntKind.u64.wrap p.seg%4294967296*4294967296=X
 have hxx:0≤X∧X≤18446744073709551615:=by omega
 clear hX
 refine (zcA _ _ (hxx).1 (hxx).2).mono ?_
 rintro e w9 ⟨rfl,hg9⟩
 replace HG:=LH (HG.out.grow hg9)
 replace HC:=LH (Grow.heap hg9 HC.out)
 have HXB:=LH (hxx)
 generalize ptrDec (X)=R at hg9 ⊢
 clear hg9
 obtain ⟨z0,z1,z2,z3,z4,z5,z6,z7,zf⟩:=zP HC.out
 have hlt9:=(gE HC.out).1
 have hne9:w9.heap.size≠B:=by omega
 have hne8:B≠w9.heap.size:=by omega
 go_wp2
 all_goals
  go_ret2
  refine ⟨_,_,rfl,?_,?_,HG.out.alloc _⟩ <;> first | exact HXB.out.1 | exact HXB.out.2 | omega
theorem zSJ (p:Pt) (w:World) (hk:p.kind=3∧p.dbl=true):Calls Tryz.prog 58 #[.agg p] w (EncPost w):=by
 have HG:=LH ((Keep.refl NoB w).alloc (.cells p 120))
 have HC:=LH (heap_alloc_new w (.cells p 120))
 have k1:(p.kind==1)=false:=by rw [beq_eq_false_iff_ne];omega
 have k2:(p.kind==2)=false:=by rw [beq_eq_false_iff_ne];omega
 have k3:(p.kind==3)=true:=by rw [beq_iff_eq];omega
 have HDB:=LH hk.2
 clear hk
 go_enter Tryz.func58,Tryz.ntmps58
 go_wp2
 generalize w.alloc (.cells p 120)=w1 at HG HC ⊢
 generalize w.heap.size=B at HC ⊢
 obtain ⟨z0,z1,z2,z3,z4,z5,z6,z7,zf⟩:=zP HC.out
 refine zE [0,1,5,6,2,3,4,7,8,9,10] [2,7,10] [1,6] [] rfl (by kernel_rfl) ?_
 refine ord_p ?_
 refine oc1 z1 ?_
 refine ord_p ?_
 refine oc1 z6 ?_
 refine zG rfl rfl rfl rfl rfl Tryz.func128 rfl rfl [.int .i64 p.off,.int .i64 29] rfl ?_
 refine (zDA p.off 29 _ (by omega)).mono ?_
 rintro e w' ⟨rfl,rfl⟩
 refine ⟨_,rfl,fun _=>Keep.refl _ _,?_⟩
 simp only [Act.put,pB,pC,pD]
 iterate 2
  refine ord_p ?_
 refine zG rfl rfl rfl rfl rfl Tryz.func128 rfl rfl [.int .i64 p.seg,.int .i64 32] rfl ?_
 refine (zDA p.seg 32 _ (by omega)).mono ?_
 rintro e w' ⟨rfl,rfl⟩
 refine ⟨_,rfl,fun _=>Keep.refl _ _,?_⟩
 simp only [Act.put,pB,pC,pD]
 iterate 2
  refine ord_p ?_
 refine ord_s ?_
 refine zD ?_
 replace HG:=LH HG.out.drew
 replace HC:=LH (show w1.drew.heap[_]? = _ from HC.out)
 clear z0 z1 z2 z3 z4 z5 z6 z7 zf
 generalize w1.drew=w2 at HG HC ⊢
 have z7:=(zP HC.out).2.2.2.2.2.2.2.1
 rw [HDB.out] at z7
 go_wp2_with fail
 generalize hX:2+8*(IntKind.u64.wrap p.off%536870912)+IntKind.u64.wrap p.seg%4294967296*4294967296+4=X
 have hxx:0≤X∧X≤18446744073709551615:=by omega
 clear hX
 refine (zcA _ _ (hxx).1 (hxx).2).mono ?_
 rintro e w9 ⟨rfl,hg9⟩
 replace HG:=LH (HG.out.grow hg9)
 replace HC:=LH (Grow.heap hg9 HC.out)
 have HXB:=LH (hxx)
 generalize ptrDec (X)=R at hg9 ⊢
 clear hg9
 obtain ⟨z0,z1,z2,z3,z4,z5,z6,z7,zf⟩:=zP HC.out
 have hlt9:=(gE HC.out).1
 have hne9:w9.heap.size≠B:=by omega
 have hne8:B≠w9.heap.size:=by omega
 go_wp2
 all_goals
  go_ret2
  refine ⟨_,_,rfl,?_,?_,HG.out.alloc _⟩ <;> first | exact HXB.out.1 | exact HXB.out.2 | omega
theorem zQC (p:Pt) (w:World):Calls Tryz.prog 58 #[.agg p] w (EncPost w):=by
 by_cases h1:p.kind=1
 ·exact zBH p w h1
 by_cases h2:p.kind=2
 ·exact zQJ p w h2
 by_cases h3:p.kind=3
 ·rcases hd:p.dbl with _ | _
  ·have:=zRJ p w ⟨h3,hd⟩;rwa [hd] at this
  ·have:=zSJ p w ⟨h3,hd⟩;rwa [hd] at this
 exact zPJ p w ⟨h1,h2,h3⟩
def needN (k:Int) (nw nb nk:Nat):Nat:=if k=1 then nw+nk else if k=2 then nw+nk+(nb+7)/8 else 0
theorem zoA (k s:Int) (A1 A2 A3:Option Addr) (nw nb nk c1 c2 c3:Nat) (h1:nw≤10000000) (h2:nb≤10000000) (h3:nk≤10000000) (w:World) :
    Calls Tryz.prog 193 #[.agg #[.int .i64 k,.int .i64 s,.slice A1 nw c1,.slice A2 nb c2,.slice A3 nk c3]] w fun e w'=>e=.returned (.int .i64 (needN k nw nb nk:Nat))∧Grow w w':=by
 have HG:=LH ((Keep.refl NoB w).alloc (.cells #[.int .i64 k,.int .i64 s,.slice A1 nw c1,.slice A2 nb c2,.slice A3 nk c3] 114))
 by_cases hk1:k=1
 ·subst hk1
  have hw:IntKind.i64.wrap ((nw:Int)+nk)=(nw:Int)+nk:=IntWalk.i64_in _ (by omega)
  go_enter Tryz.func193,Tryz.ntmps193
  go_wp2
  go_ret
  exact ⟨ret_i (by unfold needN;simp),HG.out⟩
 ·by_cases hk2:k=2
  ·subst hk2
   have hw:IntKind.i64.wrap ((nw:Int)+nk)=(nw:Int)+nk:=IntWalk.i64_in _ (by omega)
   have hw2:IntKind.i64.wrap ((nb:Int)+7)=(nb:Int)+7:=IntWalk.i64_in _ (by omega)
   have hw3:IntKind.i64.wrap ((nw:Int)+nk+((nb:Int)+7)/8)=(nw:Int)+nk+((nb:Int)+7)/8:=IntWalk.i64_in _ (by omega)
   have hw4:0≤(nb:Int)+7:=by omega
   go_enter Tryz.func193,Tryz.ntmps193
   go_wp2
   go_ret
   exact ⟨ret_i (by unfold needN;simp),HG.out⟩
  ·have hb1:(k==1)=false:=beq_eq_false_iff_ne.2 hk1
   have hb2:(k==2)=false:=beq_eq_false_iff_ne.2 hk2
   have HZ:Hid (((needN k nw nb nk:Nat):Int)=0):=LH (by unfold needN;rw [if_neg hk1,if_neg hk2];rfl)
   clear hk1 hk2
   go_enter Tryz.func193,Tryz.ntmps193
   go_wp2
   go_ret
   exact ⟨ret_i HZ.out.symm,HG.out⟩
def SomeW (w:World) (e:Ending) (w':World):Prop:=∃ x:Int,e=.returned (.int .u64 x)∧0≤x∧x≤18446744073709551615∧Grow w w'
theorem zSC (seg i:Int) (w:World):Calls Tryz.prog 197 #[.int .i64 seg,.int .i64 i] w (SomeW w):=by
 go_enter Tryz.func197,Tryz.ntmps197
 go_wp2_with fail
 refine (zQC ⟨3,i,0,0,0,0,seg,false⟩ _).mono ?_
 rintro e w' ⟨x,r,rfl,h0,h1,hg⟩
 have HG:=LH hg
 clear hg
 go_wp2
 go_ret
 exact ⟨x,rfl,h0,h1,HG.out⟩
theorem zfA (k s off:Int) (A1 A2 A3:Option Addr) (nw nb nk c1 c2 c3:Nat) (h1:nw≤10000000) (h2:nb≤10000000) (h3:nk≤10000000) (w:World) :
    Calls Tryz.prog 195 #[.agg #[.int .i64 k,.int .i64 s,.slice A1 nw c1,.slice A2 nb c2,.slice A3 nk c3],.int .i64 off] w (SomeW w):=by
 by_cases hk2:k=2
 ·subst hk2
  have hw:IntKind.i64.wrap ((nw:Int)+nk)=(nw:Int)+nk:=IntWalk.i64_in _ (by omega)
  have hw3:IntKind.i64.wrap ((nw:Int)+nk+nb)=(nw:Int)+nk+nb:=IntWalk.i64_in _ (by omega)
  go_enter Tryz.func195,Tryz.ntmps195
  go_wp2_with fail
  refine (zQC ⟨2,off,0,0,s,(nw:Int)+nk+nb,0,false⟩ _).mono ?_
  rintro e w' ⟨x,r,rfl,h0,h1,hg⟩
  have HG:=LH ((((Keep.refl NoB w).alloc _).alloc _).grow hg)
  clear hg
  go_wp2
  go_ret
  exact ⟨x,rfl,h0,h1,HG.out⟩
 ·have hb2:(k==2)=false:=beq_eq_false_iff_ne.2 hk2
  clear hk2
  go_enter Tryz.func195,Tryz.ntmps195
  go_wp2_with fail
  refine (zQC ⟨k,off,nw,nk,0,0,0,false⟩ _).mono ?_
  rintro e w' ⟨x,r,rfl,h0,h1,hg⟩
  have HG:=LH ((((Keep.refl NoB w).alloc _).alloc _).grow hg)
  clear hg
  go_wp2
  go_ret
  exact ⟨x,rfl,h0,h1,HG.out⟩
theorem zOI (A:Option Addr) (c:Nat) (l:List Int) (hl:l.length≤10000000) (hb:∀ x∈l,0≤x∧x≤255) (w:World) (hR:SliceR 1 (.slice A l.length c) l.length (u8s l) w) :
    Calls Tryz.prog 242 #[.slice A l.length c] w fun e w'=>∃ x:Int,e=.returned (.int .u64 x)∧0≤x∧x≤18446744073709551615∧w=w':=by
 have HR:=LH hR
 have HB:=LH hb
 clear hR hb
 rcases Nat.lt_or_ge 8 l.length with h8 | h8
 ·have h8':(8:Int)<l.length:=by omega
  go_enter Tryz.func242,Tryz.ntmps242
  go_wp2
  go_loopw [3,4] (fun a i wr=>wr=w∧∃ (k:Nat) (x:Int),k≤8∧i=.int .i64 ((k:Int)-1)∧a=.int .u64 x∧0≤x∧x≤18446744073709551615) (fun _ i _=>(intOf i+1).toNat)
  case atStart=>exact ⟨rfl,8,0,Nat.le_refl _,rfl,rfl,by omega,by omega⟩
  case round =>
   obtain ⟨rfl,k,x,hk,rfl,rfl,h0,h1⟩:=hrel
   by_cases hlt:1≤k
   ·obtain ⟨ad,rfl,hcell⟩:=SliceR.int_at (k:=.u8) HR.out (k-1) (by omega)
    have hcb:=HB.out _ (List.getElem_mem (show k-1<l.length by omega))
    obtain ⟨b,hbb⟩:∃ b,l[k-1]'(by omega)=b:=⟨_,rfl⟩
    rw [hbb] at hcell hcb
    obtain ⟨j,hj⟩:∃ j,k-1=j:=⟨_,rfl⟩
    rw [hj] at hcell
    have HJ:=LH hj
    have e1:(k:Int)-1=j:=by omega
    rw [e1]
    have hlt2:(j:Int)<l.length:=by omega
    have hw2:IntKind.i64.wrap ((j:Int)-1)=(j:Int)-1:=IntWalk.i64_in _ (by omega)
    have hjm:j≤8:=by omega
    clear hbb hj e1 hlt
    go_wp2
    go_roundw
    case rel=>exact ⟨trivial,j,_,hjm,rfl,rfl,(zpB _).1,(zpB _).2⟩
    case measure=>simp [intOf]
   ·obtain rfl:k=0:=by omega
    go_wp2
    go_ret
    exact ⟨x,rfl,h0,h1,rfl⟩
 ·have h8':¬ (8:Int)<l.length:=by omega
  have hw:IntKind.i64.wrap ((l.length:Int)-1)=(l.length:Int)-1:=IntWalk.i64_in _ (by omega)
  go_enter Tryz.func242,Tryz.ntmps242
  go_wp2
  go_loopw [3,4] (fun a i wr=>wr=w∧∃ (k:Nat) (x:Int),k≤l.length∧i=.int .i64 ((k:Int)-1)∧a=.int .u64 x∧0≤x∧x≤18446744073709551615) (fun _ i _=>(intOf i+1).toNat)
  case atStart=>exact ⟨rfl,l.length,0,Nat.le_refl _,rfl,rfl,by omega,by omega⟩
  case round =>
   obtain ⟨rfl,k,x,hk,rfl,rfl,h0,h1⟩:=hrel
   by_cases hlt:1≤k
   ·obtain ⟨ad,rfl,hcell⟩:=SliceR.int_at (k:=.u8) HR.out (k-1) (by omega)
    have hcb:=HB.out _ (List.getElem_mem (show k-1<l.length by omega))
    obtain ⟨b,hbb⟩:∃ b,l[k-1]'(by omega)=b:=⟨_,rfl⟩
    rw [hbb] at hcell hcb
    obtain ⟨j,hj⟩:∃ j,k-1=j:=⟨_,rfl⟩
    rw [hj] at hcell
    have HJ:=LH hj
    have e1:(k:Int)-1=j:=by omega
    rw [e1]
    have hlt2:(j:Int)<l.length:=by omega
    have hw2:IntKind.i64.wrap ((j:Int)-1)=(j:Int)-1:=IntWalk.i64_in _ (by omega)
    have hjm:j≤l.length:=by omega
    clear hbb hj e1 hlt
    go_wp2
    go_roundw
    case rel=>exact ⟨trivial,j,_,hjm,rfl,rfl,(zpB _).1,(zpB _).2⟩
    case measure=>simp [intOf]
   ·obtain rfl:k=0:=by omega
    go_wp2
    go_ret
    exact ⟨x,rfl,h0,h1,rfl⟩
def RDeepAt (l:Nat):Prop:=∀ (t:Tr) (vw vb vk:Value) (w:World),TrR w t vw vb vk→TrB t →
 Calls Tryz.prog 143 #[.agg #[t.kind,t.size,vw,vb,vk],.int .i64 l] w fun e w'=>e=.returned (.bool (rightB l t))∧Grow w w'
theorem zPI {l:Nat} {t:Tr} (hk:t.kind=0):rightB l t=ownT t:=by
 cases l with
 | zero=>simp [rightB,hk]
 | succ l =>
  unfold rightB
  rcases ho:ownT t with _ | _
  ·rfl
  ·rw [zhF ho hk];rfl
theorem zzC {l:Nat} {t:Tr} (ho:ownT t=false):rightB l t=false:=by
 cases l <;> simp [rightB,ho]
theorem zCE (l:Nat) (t:Tr) (vw vb vk:Value) (w:World) (h:TrR w t vw vb vk) (hb:TrB t) (hk0:t.kind=0):Calls Tryz.prog 143 #[.agg #[t.kind,t.size,vw,vb,vk],.int .i64 l] w fun e w'=>e=.returned (.bool (rightB l t))∧Grow w w':=by
 obtain ⟨A1,c1,A2,c2,A3,c3,rfl,rfl,rfl⟩:=h.parts
 obtain ⟨k,hk9⟩:∃ k,t.kind=k:=⟨_,rfl⟩
 obtain ⟨s,hs9⟩:∃ s,t.size=s:=⟨_,rfl⟩
 obtain ⟨nw,hnw⟩:∃ nw,t.ws.length=nw:=⟨_,rfl⟩
 obtain ⟨nb,hnb⟩:∃ nb,t.bs.length=nb:=⟨_,rfl⟩
 obtain ⟨nk,hnk⟩:∃ nk,t.kids.length=nk:=⟨_,rfl⟩
 have b1:=hb.w
 have b2:=hb.b
 have b3:=hb.k
 have HRT:Hid (rightB l t=(s==0&&((nw:Int)+nb+nk==0))):=LH (by
  rw [zPI hk0]
  unfold ownT ownB
  rw [if_pos hk0,hs9,hnw,hnb,hnk]
  congr 1
  rw [Bool.eq_iff_iff,beq_iff_eq,beq_iff_eq]
  omega)
 rw [hk0,hs9,hnw,hnb,hnk]
 rw [hnw] at b1
 rw [hnb] at b2
 rw [hnk] at b3
 clear h hb hk9 hs9 hnw hnb hnk hk0
 have hw1:IntKind.i64.wrap ((nw:Int)+nb)=(nw:Int)+nb:=IntWalk.i64_in _ (by omega)
 have hw2:IntKind.i64.wrap ((nw:Int)+nb+nk)=(nw:Int)+nb+nk:=IntWalk.i64_in _ (by omega)
 have HG:=LH ((Keep.refl NoB w).alloc (.cells #[qJ,.int .i64 s,.slice A1 nw c1,.slice A2 nb c2,.slice A3 nk c3] 114))
 rcases hs0:(s==0) with _ | _
 ·rw [hs0] at HRT
  go_enter Tryz.func143,Tryz.ntmps143
  go_wp2
  go_ret
  exact ⟨by rw [HRT.out];rfl,HG.out⟩
 ·rw [hs0] at HRT
  go_enter Tryz.func143,Tryz.ntmps143
  go_wp2
  go_ret
  exact ⟨by rw [HRT.out];rfl,HG.out⟩
theorem zDE (l:Nat) (t:Tr) (vw vb vk:Value) (w:World) (h:TrR w t vw vb vk) (hb:TrB t) (ho:ownT t=false) (hk0:t.kind=1):Calls Tryz.prog 143 #[.agg #[t.kind,t.size,vw,vb,vk],.int .i64 l] w fun e w'=>e=.returned (.bool (rightB l t))∧Grow w w':=by
 obtain ⟨A1,c1,A2,c2,A3,c3,rfl,rfl,rfl⟩:=h.parts
 obtain ⟨k,hk9⟩:∃ k,t.kind=k:=⟨_,rfl⟩
 obtain ⟨s,hs9⟩:∃ s,t.size=s:=⟨_,rfl⟩
 obtain ⟨nw,hnw⟩:∃ nw,t.ws.length=nw:=⟨_,rfl⟩
 obtain ⟨nb,hnb⟩:∃ nb,t.bs.length=nb:=⟨_,rfl⟩
 obtain ⟨nk,hnk⟩:∃ nk,t.kids.length=nk:=⟨_,rfl⟩
 have b1:=hb.w
 have b2:=hb.b
 have b3:=hb.k
 have HRT:Hid (rightB l t=false):=LH (zzC ho)
 have hown:ownB 1 s nw nb nk=false:=by
  unfold ownT at ho
  rw [hs9,hnw,hnb,hnk,hk0] at ho
  exact ho
 have HOWN:Hid (¬ (s=0∧nb=0∧nw≤100∧nk≤100)):=LH (fun hc=>by obtain ⟨rfl,rfl,h3,h4⟩:=hc;simp [ownB,show max nw nk≤100 from by omega] at hown)
 rw [hk0,hs9,hnw,hnb,hnk]
 rw [hnw] at b1
 rw [hnb] at b2
 rw [hnk] at b3
 clear h hb hk9 hs9 hnw hnb hnk hk0 ho hown
 have HG:=LH ((Keep.refl NoB w).alloc (.cells #[.int .i64 1,.int .i64 s,.slice A1 nw c1,.slice A2 nb c2,.slice A3 nk c3] 114))
 rcases ht0:(s==0) with _ | _
 ·go_enter Tryz.func143,Tryz.ntmps143
  go_wp2
  go_ret
  exact ⟨by rw [HRT.out];rfl,(Keep.refl NoB w).alloc _⟩
 ·skip
  rcases ht1:decide ((nw:Int)≤100) with _ | _
  ·go_enter Tryz.func143,Tryz.ntmps143
   go_wp2
   go_ret
   exact ⟨by rw [HRT.out];rfl,(Keep.refl NoB w).alloc _⟩
  ·skip
   rcases ht2:((nb:Int)==0) with _ | _
   ·go_enter Tryz.func143,Tryz.ntmps143
    go_wp2
    go_ret
    exact ⟨by rw [HRT.out];rfl,(Keep.refl NoB w).alloc _⟩
   ·skip
    rcases ht3:decide ((nk:Int)≤100) with _ | _
    ·go_enter Tryz.func143,Tryz.ntmps143
     go_wp2
     go_ret
     exact ⟨by rw [HRT.out];rfl,(Keep.refl NoB w).alloc _⟩
    ·skip
     have:=beq_iff_eq.1 ht0
     have:=of_decide_eq_true ht1
     have:=beq_iff_eq.1 ht2
     have:=of_decide_eq_true ht3
     exfalso
     exact HOWN.out (by omega)
theorem zEE (l:Nat) (t:Tr) (vw vb vk:Value) (w:World) (h:TrR w t vw vb vk) (hb:TrB t) (ho:ownT t=false) (hk0:t.kind=2):Calls Tryz.prog 143 #[.agg #[t.kind,t.size,vw,vb,vk],.int .i64 l] w fun e w'=>e=.returned (.bool (rightB l t))∧Grow w w':=by
 obtain ⟨A1,c1,A2,c2,A3,c3,rfl,rfl,rfl⟩:=h.parts
 obtain ⟨k,hk9⟩:∃ k,t.kind=k:=⟨_,rfl⟩
 obtain ⟨s,hs9⟩:∃ s,t.size=s:=⟨_,rfl⟩
 obtain ⟨nw,hnw⟩:∃ nw,t.ws.length=nw:=⟨_,rfl⟩
 obtain ⟨nb,hnb⟩:∃ nb,t.bs.length=nb:=⟨_,rfl⟩
 obtain ⟨nk,hnk⟩:∃ nk,t.kids.length=nk:=⟨_,rfl⟩
 have b1:=hb.w
 have b2:=hb.b
 have b3:=hb.k
 have HRT:Hid (rightB l t=false):=LH (zzC ho)
 have hown:ownB 2 s nw nb nk=false:=by
  unfold ownT at ho
  rw [hs9,hnw,hnb,hnk,hk0] at ho
  exact ho
 have HOWN:Hid (¬ ((s=2∧nw=0∧nk=0∧nb≤4096)∨(s=5∧nb=0∧nk=0∧nw≤4096)∨(s=6∧nb=0∧nw=0∧nk≤4096))):=LH (fun hc=>by rcases hc with ⟨rfl,rfl,rfl,h3⟩ | ⟨rfl,rfl,rfl,h3⟩ | ⟨rfl,rfl,rfl,h3⟩ <;> simp [ownB,h3] at hown)
 rw [hk0,hs9,hnw,hnb,hnk]
 rw [hnw] at b1
 rw [hnb] at b2
 rw [hnk] at b3
 clear h hb hk9 hs9 hnw hnb hnk hk0 ho hown
 have HG:=LH ((Keep.refl NoB w).alloc (.cells #[qQ,.int .i64 s,.slice A1 nw c1,.slice A2 nb c2,.slice A3 nk c3] 114))
 by_cases hs:s=2
 ·subst hs
  have o5:((2:Int)==5)=false:=rfl
  have o6:((2:Int)==6)=false:=rfl
  rcases ht0:((nw:Int)==0) with _ | _
  ·go_enter Tryz.func143,Tryz.ntmps143
   go_wp2
   go_ret
   exact ⟨by rw [HRT.out];rfl,(Keep.refl NoB w).alloc _⟩
  ·skip
   rcases ht1:((nk:Int)==0) with _ | _
   ·go_enter Tryz.func143,Tryz.ntmps143
    go_wp2
    go_ret
    exact ⟨by rw [HRT.out];rfl,(Keep.refl NoB w).alloc _⟩
   ·skip
    rcases ht2:decide ((nb:Int)≤4096) with _ | _
    ·go_enter Tryz.func143,Tryz.ntmps143
     go_wp2
     go_ret
     exact ⟨by rw [HRT.out];rfl,(Keep.refl NoB w).alloc _⟩
    ·skip
     have:=beq_iff_eq.1 ht0
     have:=beq_iff_eq.1 ht1
     have:=of_decide_eq_true ht2
     exfalso
     exact HOWN.out (by omega)
 by_cases hs5:s=5
 ·clear hs
  subst hs5
  have o2:((5:Int)==2)=false:=rfl
  have o6:((5:Int)==6)=false:=rfl
  rcases ht0:((nb:Int)==0) with _ | _
  ·go_enter Tryz.func143,Tryz.ntmps143
   go_wp2
   go_ret
   exact ⟨by rw [HRT.out];rfl,(Keep.refl NoB w).alloc _⟩
  ·skip
   rcases ht1:((nk:Int)==0) with _ | _
   ·go_enter Tryz.func143,Tryz.ntmps143
    go_wp2
    go_ret
    exact ⟨by rw [HRT.out];rfl,(Keep.refl NoB w).alloc _⟩
   ·skip
    rcases ht2:decide ((nw:Int)≤4096) with _ | _
    ·go_enter Tryz.func143,Tryz.ntmps143
     go_wp2
     go_ret
     exact ⟨by rw [HRT.out];rfl,(Keep.refl NoB w).alloc _⟩
    ·skip
     have:=beq_iff_eq.1 ht0
     have:=beq_iff_eq.1 ht1
     have:=of_decide_eq_true ht2
     exfalso
     exact HOWN.out (by omega)
 by_cases hs6:s=6
 ·clear hs hs5
  subst hs6
  have o2:((6:Int)==2)=false:=rfl
  have o5:((6:Int)==5)=false:=rfl
  rcases ht0:((nb:Int)==0) with _ | _
  ·go_enter Tryz.func143,Tryz.ntmps143
   go_wp2
   go_ret
   exact ⟨by rw [HRT.out];rfl,(Keep.refl NoB w).alloc _⟩
  ·skip
   rcases ht1:((nw:Int)==0) with _ | _
   ·go_enter Tryz.func143,Tryz.ntmps143
    go_wp2
    go_ret
    exact ⟨by rw [HRT.out];rfl,(Keep.refl NoB w).alloc _⟩
   ·skip
    rcases ht2:decide ((nk:Int)≤4096) with _ | _
    ·go_enter Tryz.func143,Tryz.ntmps143
     go_wp2
     go_ret
     exact ⟨by rw [HRT.out];rfl,(Keep.refl NoB w).alloc _⟩
    ·skip
     have:=beq_iff_eq.1 ht0
     have:=beq_iff_eq.1 ht1
     have:=of_decide_eq_true ht2
     exfalso
     exact HOWN.out (by omega)
 have o2:(s==2)=false:=beq_eq_false_iff_ne.2 hs
 have o5:(s==5)=false:=beq_eq_false_iff_ne.2 hs5
 have o6:(s==6)=false:=beq_eq_false_iff_ne.2 hs6
 clear hs hs5 hs6
 go_enter Tryz.func143,Tryz.ntmps143
 go_wp2
 go_ret
 exact ⟨by rw [HRT.out];rfl,(Keep.refl NoB w).alloc _⟩
theorem zFE (l:Nat) (t:Tr) (vw vb vk:Value) (w:World) (h:TrR w t vw vb vk) (hb:TrB t) (ho:ownT t=false) (hk0:t.kind≠0∧t.kind≠1∧t.kind≠2):Calls Tryz.prog 143 #[.agg #[t.kind,t.size,vw,vb,vk],.int .i64 l] w fun e w'=>e=.returned (.bool (rightB l t))∧Grow w w':=by
 obtain ⟨A1,c1,A2,c2,A3,c3,rfl,rfl,rfl⟩:=h.parts
 obtain ⟨k,hk9⟩:∃ k,t.kind=k:=⟨_,rfl⟩
 obtain ⟨s,hs9⟩:∃ s,t.size=s:=⟨_,rfl⟩
 obtain ⟨nw,hnw⟩:∃ nw,t.ws.length=nw:=⟨_,rfl⟩
 obtain ⟨nb,hnb⟩:∃ nb,t.bs.length=nb:=⟨_,rfl⟩
 obtain ⟨nk,hnk⟩:∃ nk,t.kids.length=nk:=⟨_,rfl⟩
 have b1:=hb.w
 have b2:=hb.b
 have b3:=hb.k
 have HRT:Hid (rightB l t=false):=LH (zzC ho)
 have hown:ownB k s nw nb nk=false:=by
  unfold ownT at ho
  rw [hs9,hnw,hnb,hnk,hk9] at ho
  exact ho
 have HOWN:Hid (True):=LH (trivial)
 rw [hk9] at hk0
 rw [hk9,hs9,hnw,hnb,hnk]
 rw [hnw] at b1
 rw [hnb] at b2
 rw [hnk] at b3
 have kb1:(k==1)=false:=beq_eq_false_iff_ne.2 (by omega)
 have kb2:(k==2)=false:=beq_eq_false_iff_ne.2 (by omega)
 have kb0:(k==0)=false:=beq_eq_false_iff_ne.2 (by omega)
 clear h hb hk9 hs9 hnw hnb hnk hk0 ho hown
 have HG:=LH ((Keep.refl NoB w).alloc (.cells #[.int .i64 k,.int .i64 s,.slice A1 nw c1,.slice A2 nb c2,.slice A3 nk c3] 114))
 go_enter Tryz.func143,Tryz.ntmps143
 go_wp2
 go_ret
 exact ⟨by rw [HRT.out];rfl,(Keep.refl NoB w).alloc _⟩
end Go.Proofs.YtfkcpaahdlkcdaaGreat
namespace Go.Proofs.YtfkcpaahdlkcdaaGreat
open Go.RowKit
def QNPost (A:Option Addr) (n c:Nat) (r:Tr×Int×Int) (w:World) (e:Ending) (w':World):Prop :=
 ∃ (paid k s:Int) (A1 A2 A3:Option Addr) (n1 c1 n2 c2 n3 c3:Nat),e=.returned (.tuple #[.agg #[.slice A n c,qL,qI,.int .i64 paid,.int .i64 r.2.1],.agg #[.int .i64 k,.int .i64 s,.slice A1 n1 c1,.slice A2 n2 c2,.slice A3 n3 c3]])∧Grow w w' ∧
  (r.2.1=0→paid=r.2.2∧k=r.1.kind∧s=r.1.size∧n1=r.1.ws.length∧n2=r.1.bs.length∧n3=r.1.kids.length∧TrB r.1∧Foot (fun u=>TrR u r.1 (.slice A1 n1 c1) (.slice A2 n2 c2) (.slice A3 n3 c3)) w' (fun j=>w.heap.size≤j∧j<w'.heap.size))
structure QD (w:World) (A:Option Addr) (n ca:Nat) (paid er:Int) (O N:Nat) (o:Ob) (vw vb vk:Value) (c:World):Prop where
 d4:c.heap[w.heap.size]? = some (.cells #[.slice A n ca,qL,qI,.int .i64 paid,.int .i64 er] 216 (0,0))
 d8:c.heap[w.heap.size+1]? = some (.cells qF 216 (0,0))
 d9:c.heap[w.heap.size+2]? = some (.cells qA 114 (0,0))
 ob:c.heap[O]? = some (.cells o 257 (0,0))
 nd:c.heap[N]? = some (.cells #[o.kind,o.size,vw,vb,vk] 114 (0,0))
 grow:Grow w c
 lo:w.heap.size+2<O∧O<N
namespace QD
variable {w:World} {A:Option Addr} {n ca:Nat} {paid er:Int} {O N:Nat} {o:Ob} {vw vb vk:Value} {c c':World}
theorem big (h:QD w A n ca paid er O N o vw vb vk c):N<c.heap.size:=(gE h.nd).1
theorem keep (h:QD w A n ca paid er O N o vw vb vk c) (hk:Keep (fun j=>N<j) c c'):QD w A n ca paid er O N o vw vb vk c':=by
 have hb:=h.big
 obtain ⟨l1,l2⟩:=h.lo
 exact ⟨(hk.block _ (by omega) (by omega)).trans h.d4,(hk.block _ (by omega) (by omega)).trans h.d8,(hk.block _ (by omega) (by omega)).trans h.d9,(hk.block _ (by omega) (by omega)).trans h.ob,(hk.block _ hb (by omega)).trans h.nd,
  ((h.grow.mono (T:=fun j=>w.heap.size≤j) (fun _ h=>h.elim)).trans hk (fun j hj=>.inl (by omega))).new (fun j hj=>hj),h.lo⟩
theorem later (h:QD w A n ca paid er O N o vw vb vk c) (hg:Grow c c'):QD w A n ca paid er O N o vw vb vk c':=h.keep (hg.mono (fun _ h=>h.elim))
theorem atN (h:QD w A n ca paid er O N o vw vb vk c) (i:Nat) (u x2 x3 x4:Value) (hs:(c.setCell ⟨N,i,none⟩ u).heap[N]? = some (.cells #[o.kind,o.size,x2,x3,x4] 114 (0,0))):QD w A n ca paid er O N o x2 x3 x4 (c.setCell ⟨N,i,none⟩ u):=by
 have hb:=h.big
 obtain ⟨l1,l2⟩:=h.lo
 have hk:Keep (fun j=>j=N) c (c.setCell ⟨N,i,none⟩ u):=(Keep.refl (fun j=>j=N) c).setCell (p:=⟨N,i,none⟩) (.inl rfl) _
 exact ⟨(hk.block _ (by omega) (by omega)).trans h.d4,(hk.block _ (by omega) (by omega)).trans h.d8,(hk.block _ (by omega) (by omega)).trans h.d9,(hk.block _ (by omega) (by omega)).trans h.ob,hs,
  ((h.grow.mono (T:=fun j=>w.heap.size≤j) (fun _ h=>h.elim)).trans hk (fun j hj=>.inl (by omega))).new (fun j hj=>hj),h.lo⟩
theorem put2 (h:QD w A n ca paid er O N o vw vb vk c) (u:Value):QD w A n ca paid er O N o u vb vk (c.setCell ⟨N,2,none⟩ u):=h.atN 2 u u vb vk (by simp only [World.setCell,Array.getElem?_modify];simp [h.nd])
theorem put3 (h:QD w A n ca paid er O N o vw vb vk c) (u:Value):QD w A n ca paid er O N o vw u vk (c.setCell ⟨N,3,none⟩ u):=h.atN 3 u vw u vk (by simp only [World.setCell,Array.getElem?_modify];simp [h.nd])
theorem put4 (h:QD w A n ca paid er O N o vw vb vk c) (u:Value):QD w A n ca paid er O N o vw vb u (c.setCell ⟨N,4,none⟩ u):=h.atN 4 u vw vb u (by simp only [World.setCell,Array.getElem?_modify];simp [h.nd])
theorem putD (h:QD w A n ca paid er O N o vw vb vk c) (p2 e2:Int):QD w A n ca p2 e2 O N o vw vb vk (((((c.setCell ⟨w.heap.size,0,none⟩ (.slice A n ca)).setCell ⟨w.heap.size,1,none⟩ (.bool false)).setCell ⟨w.heap.size,2,none⟩ (.slice none 0 0)).setCell ⟨w.heap.size,3,none⟩ (.int .i64 p2)).setCell ⟨w.heap.size,4,none⟩ (.int .i64 e2)):=by
 have hb:=h.big
 obtain ⟨l1,l2⟩:=h.lo
 have hk:=zb (c:=c) (N:=w.heap.size) (.slice A n ca) (.bool false) (.slice none 0 0) (.int .i64 p2) (.int .i64 e2)
 have hst:=zY (w0:=w) (.slice A n ca) (.bool false) (.slice none 0 0) (.int .i64 p2) (.int .i64 e2) h.grow (Nat.le_refl _) h.d4
 exact ⟨hst.1,(hk.block _ (by omega) (by omega)).trans h.d8,(hk.block _ (by omega) (by omega)).trans h.d9,(hk.block _ (by omega) (by omega)).trans h.ob,(hk.block _ hb (by omega)).trans h.nd,hst.2,h.lo⟩
end QD
def FQ (N:Nat) (v:Value) (c:World):Nat→Prop:=fun j=>N<j∧j<c.heap.size∧v.ownBlock≠some j
structure QK (w:World) (A:Option Addr) (n ca:Nat) (paid er:Int) (O N:Nat) (o:Ob) (ws bs:List Int) (vw vb:Value) (k:Nat) (vk:Value) (rows:List (Tr×Value×Value×Value)) (c:World):Prop where
 q:QD w A n ca paid er O N o vw vb vk c
 len:rows.length=k
 own:c.ownsRow (N+1) 114 5 vk k (kcs rows)
 foot:Foot (fun u=>SliceR 1 vw ws.length (u64s ws) u∧SliceR 1 vb bs.length (u8s bs) u∧∀ r,r∈rows→TrR u r.1 r.2.1 r.2.2.1 r.2.2.2) c (FQ N vk c)
 trb:∀ r,r∈rows→TrB r.1
theorem QK.begin {w:World} {A:Option Addr} {n ca:Nat} {paid er:Int} {O N:Nat} {o:Ob} {ws bs:List Int} {vw vb:Value} {c:World}
    (hq:QD w A n ca paid er O N o vw vb (.slice none 0 0) c) (hw:c.ownsRow (N+1) 22 1 vw ws.length (u64s ws)) (hb:c.ownsRow (N+1) 5 1 vb bs.length (u8s bs)) :
    QK w A n ca paid er O N o ws bs vw vb 0 (.slice none 0 0) [] c:=by
 refine ⟨hq,rfl,World.ownsRow_nil _ _ _ _,?_,fun r h=>by cases h⟩
 refine (((Foot.of_own hw).and (Foot.of_own hb)).imp (fun u h=>⟨h.1,h.2,fun r hr=>by cases hr⟩)).mono (fun j hj=>hj.2.1) (fun j hj=>?_)
 rcases hj with hj | hj
 ·exact ⟨by have:=(hw.lt j hj).1;omega,(hw.lt j hj).2,by simp [Value.ownBlock]⟩
 ·exact ⟨by have:=(hb.lt j hj).1;omega,(hb.lt j hj).2,by simp [Value.ownBlock]⟩
structure QM (w:World) (A:Option Addr) (n ca:Nat) (paid er:Int) (O N:Nat) (o:Ob) (ws bs:List Int) (vw vb:Value) (k:Nat) (vk:Value) (rows:List (Tr×Value×Value×Value)) (kid:Tr×Value×Value×Value) (c:World):Prop where
 q:QD w A n ca paid er O N o vw vb vk c
 own:c.ownsRow (N+1) 114 5 vk k (kcs rows)
 foot:Foot (fun u=>SliceR 1 vw ws.length (u64s ws) u∧SliceR 1 vb bs.length (u8s bs) u∧∀ r,r∈rows++[kid]→TrR u r.1 r.2.1 r.2.2.1 r.2.2.2) c (FQ N vk c)
theorem QK.called {w:World} {A:Option Addr} {n ca:Nat} {paid er:Int} {O N:Nat} {o:Ob} {ws bs:List Int} {vw vb:Value} {k:Nat} {vk:Value} {rows:List (Tr×Value×Value×Value)} {c c':World}
    (h:QK w A n ca paid er O N o ws bs vw vb k vk rows c) {t:Tr} {xw xb xk:Value} (hg:Grow c c') (hf:Foot (fun u=>TrR u t xw xb xk) c' (fun j=>c.heap.size≤j∧j<c'.heap.size)) :
    QM w A n ca paid er O N o ws bs vw vb k vk rows (t,xw,xb,xk) c':=by
 have hb:=h.q.big
 refine ⟨h.q.later hg,zF h.own hg (fun _ _ h=>h),?_⟩
 refine (((h.foot.grow hg).and hf).imp (fun u hu=>⟨hu.1.1,hu.1.2.1,fun r hr=>by
  rcases List.mem_append.1 hr with e | e
  ·exact hu.1.2.2 r e
  ·rw [List.mem_singleton.1 e];exact hu.2⟩)).mono (fun j hj=>hj.2.1) (fun j hj=>?_)
 rcases hj with hj | hj
 ·exact ⟨hj.1,Nat.lt_of_lt_of_le hj.2.1 hg.size,hj.2.2⟩
 ·exact ⟨by omega,hj.2,fun e=>by have:=(h.own.lt j e).2;omega⟩
theorem QM.grow {w:World} {A:Option Addr} {n ca:Nat} {paid er:Int} {O N:Nat} {o:Ob} {ws bs:List Int} {vw vb:Value} {k:Nat} {vk:Value} {rows:List (Tr×Value×Value×Value)} {kid:Tr×Value×Value×Value} {c c':World}
    (h:QM w A n ca paid er O N o ws bs vw vb k vk rows kid c) (hg:Grow c c'):QM w A n ca paid er O N o ws bs vw vb k vk rows kid c' :=
 ⟨h.q.later hg,zF h.own hg (fun _ _ h=>h),(h.foot.grow hg).mono (fun j hj=>hj.2.1) (fun j hj=>⟨hj.1,Nat.lt_of_lt_of_le hj.2.1 hg.size,hj.2.2⟩)⟩
theorem QM.appended {w:World} {A:Option Addr} {n ca:Nat} {paid er:Int} {O N:Nat} {o:Ob} {ws bs:List Int} {vw vb:Value} {k:Nat} {vk v4:Value} {rows:List (Tr×Value×Value×Value)} {kid:Tr×Value×Value×Value} {c c4:World} {p:Prop}
    (h:QM w A n ca paid er O N o ws bs vw vb k vk rows kid c) (hap:Apped (N+1) 114 5 vk v4 (k+1) (kcs rows++[.int .i64 kid.1.kind,.int .i64 kid.1.size,kid.2.1,kid.2.2.1,kid.2.2.2]) c c4 p)
    (hlen:rows.length=k) (htrb:∀ r,r∈rows++[kid]→TrB r.1) :
    QK w A n ca paid er O N o ws bs vw vb (k+1) v4 (rows++[kid]) (c4.setCell ⟨N,4,none⟩ v4)∧QD w A n ca paid er O N o vw vb vk c4:=by
 have hv:∀ j,vk.ownBlock=some j→N<j:=fun j hj=>(h.own.lt j hj).1
 have hk:Keep (fun j=>vk.ownBlock=some j) c c4:=(Keep.refl _ c).grown hap.grew (fun j hj=>.inl hj)
 have hq4:=h.q.keep (hk.mono (fun j hj=>hv j hj))
 have hkN:Keep (fun j=>j=N) c4 (c4.setCell ⟨N,4,none⟩ v4):=(Keep.refl (fun j=>j=N) c4).setCell (p:=⟨N,4,none⟩) (.inl rfl) _
 have hv4:∀ j,v4.ownBlock=some j→vk.ownBlock=some j∨c.heap.size≤j:=fun j hj=>(zu hap j hj).imp id (fun e=>by omega)
 have hv4N:∀ j,v4.ownBlock=some j→N<j:=fun j hj=>(hap.own.lt j hj).1
 refine ⟨⟨hq4.put4 v4,by simp [hlen],?_,?_,htrb⟩,hq4⟩
 ·have:=zF hap.own hkN (fun j hj e=>by have:=hv4N j hj;omega)
  rw [zPC]
  simpa [kcs] using this
 ·refine ((h.foot.keep hk (fun j hj e=>hj.2.2 e)).keep hkN (fun j hj e=>by have:=hj.1;omega)).mono (fun j hj=>hj.2.1) (fun j hj=>⟨hj.1,?_,fun e=>?_⟩)
  ·have:=hk.size
   have:=hkN.size
   have:=hj.2.1
   omega
  ·rcases hv4 j e with e2 | e2
   ·exact hj.2.2 e2
   ·have:=hj.2.1;omega
end Go.Proofs.YtfkcpaahdlkcdaaGreat

import Derived.Test.YtfkcpaahdlkcdaaGreatRRecvReads08
import Derived.Test.YtfkcpaahdlkcdaaGreatRRecvReads11
set_option linter.unusedSimpArgs false
set_option linter.unusedVariables false
set_option maxRecDepth 100000
set_option maxHeartbeats 16000000
namespace Go.Proofs.YtfkcpaahdlkcdaaGreat
open Go.RowKit Go.Shelf
attribute [local go_sem] Oper.semAt_some
def chN (m each:Nat):Nat:=(m+each-1)/each
def chL (m each k:Nat):Nat:=min each (m-k*each)
def chV (A:Option Addr) (m each k:Nat):Value:=.slice (A.map fun ad=>ad.add (k*each)) (chL m each k) (chL m each k)
def pieceL (l:List Int) (each k:Nat):List Int:=(l.drop (k*each)).take each
theorem zHA (l:List Int) (each k:Nat):(pieceL l each k).length=chL l.length each k:=by simp [pieceL,chL]
theorem SliceR.piece {A:Option Addr} {c:Nat} {l:List Int} {f:Int→Value} {w:World} (h:SliceR 1 (.slice A l.length c) l.length (l.map f) w) (each k:Nat):SliceR 1 (chV A l.length each k) (pieceL l each k).length ((pieceL l each k).map f) w:=by
 obtain ⟨A',c',e,hc,hl,hA,hq⟩:=h
 injection e with e1 e2 e3
 subst e1;subst e3
 have hpl:=zHA l each k
 refine ⟨_,_,by rw [hpl];rfl,by rw [hpl];exact Nat.le_refl _,by simp,?_,?_⟩
 ·intro h0
  have:A=none:=by cases A with
   | none=>rfl
   | some ad=>simp at h0
  have:=hA this
  unfold chL
  omega
 ·intro j u hu
  have hj:j<(pieceL l each k).length:=by have:=(List.getElem?_eq_some_iff.1 hu).1;simpa using this
  have hu2:(l.map f)[k*each+j]? = some u:=by
   rw [← hu]
   rw [zHA] at hj
   unfold chL at hj
   have hj1:j<each:=by omega
   simp [pieceL,List.getElem?_take,hj1]
  obtain ⟨ad,rfl,hcell⟩:=hq _ _ hu2
  exact ⟨_,rfl,by rw [Addr.add_add];exact hcell⟩
structure KeepB (B:Nat) (X:Nat→Prop) (a c:World):Prop where
 below:Below B a c
 same:∀ k,X k→c.heap[k]? = a.heap[k]?
theorem KeepB.refl (B:Nat) (X:Nat→Prop) (a:World):KeepB B X a a:=⟨Below.refl _ _,fun _ _=>rfl⟩
theorem KeepB.trans {B:Nat} {X:Nat→Prop} {a b c:World} (h:KeepB B X a b) (k:KeepB B X b c):KeepB B X a c:=⟨h.below.trans k.below,fun i hi=>(k.same i hi).trans (h.same i hi)⟩
theorem KeepB.drew {B:Nat} {X:Nat→Prop} (a:World):KeepB B X a a.drew:=⟨(Below.refl _ _).drew,fun _ _=>rfl⟩
theorem KeepB.put {B:Nat} {X:Nat→Prop} {w:World} (hn:B≤w.heap.size) (hX:∀ k,X k→k<w.heap.size) (W:World) (l:Nat) (o o':Obj) (hl:w.heap.size≤l) (h:W.heap[l]? = some o) (hc:o.isCells=false) (hw:o.isWalk=false):KeepB B X W (W.putObj l o') :=
 ⟨belowK_b hn W l o o' hl h hc hw,fun k hk=>(grownBy_putObj' W l o').block k (by have:=(gE h).1;have:=hX k hk;omega) (fun e=>by cases e;have:=hX _ hk;omega)⟩
theorem KeepB.set {B:Nat} {X:Nat→Prop} {a c:World} (h:KeepB B X a c) {g:Nat} (hg:B≤g) (hX:∀ k,X k→k≠g) (u:Value):KeepB B X a (c.setCell ⟨g,0,none⟩ u) :=
 ⟨h.below.setCell (p:=⟨g,0,none⟩) hg u,fun k hk=>(Below.heap_setCell c ⟨g,0,none⟩ u k (hX k hk)).trans (h.same k hk)⟩
theorem zvF {m each k:Nat} (he:1≤each):k<chN m each↔k*each<m:=by
 unfold chN
 rw [Nat.lt_iff_add_one_le,Nat.le_div_iff_mul_le (by omega),Nat.succ_mul]
 omega
theorem zwF (A:Option Addr) (n c:Nat) (each:Int) (he:1≤each) (w:World) :
    Calls Tryz.prog 169 #[.slice A n c,.int .i64 each] w fun e w'=>e=.returned (.func (.func 220) #[] #[.pointer (some ⟨w.heap.size,0,none⟩),.pointer (some ⟨w.heap.size+1,0,none⟩)])∧w'=(w.alloc (.cells #[.slice A n c] 23)).alloc (.cells #[.int .i64 each] 3):=by
 go_enter Tryz.func169,Tryz.ntmps169
 go_wp2
 go_ret
 exact ⟨rfl,rfl⟩
theorem zHI (F:Fence) (n:Nat) (h7:F.fn 220) (hro:F.round=none) (hn:1≤n) (l Bs Bn:Nat) (m each:Nat) (he:1≤each) (he2:each≤64) (hm:m≤100000000) (A:Option Addr) (c:Nat) (hmc:m≤c) (hA:A=none→c=0) (Kp:World→World→Prop) (hKt:∀ {a b c:World},Kp a b→Kp b c→Kp a c) (hKd:∀ W,Kp W W.drew) (w0:World)
    (hKs:∀ W,Kp w0 W→W.cell? ⟨Bs,0,none⟩=some (.slice A m c)∧W.cell? ⟨Bn,0,none⟩=some (.int .i64 each)) (J Jx:List Nat→World→Prop) (B0:Nat) (hJ:AbidesFrom B0 J)
    (hY:∀ pre x W,J pre W→pre.length<chN m each→YieldAt F (n-1) Tryz.prog l #[chV A m each x] W fun e W' =>
     (e=.returned (.bool true)∧J (pre++[x]) W'∧Kp W W')∨(e=.returned (.bool false)∧Jx (pre++[x]) W'))
    (W:World) (hW:Kp w0 W) (h0:J [] W) :
    CallsIn F n Tryz.prog 220 #[.func (.yield l) #[] #[],.pointer (some ⟨Bs,0,none⟩),.pointer (some ⟨Bn,0,none⟩)] W fun e W'=>(∃ v,e=.returned v) ∧
     ((∃ ys,ys=upto (fun k=>k) (chN m each)∧J ys W')∨(∃ pre,(∃ k,k≤chN m each∧pre=upto (fun k=>k) k)∧Jx pre W')):=by
 have u0:Tryz.prog.underlying 23=some (.slice 5):=zW
 refine callsIn_of_wp Tryz.func220 rfl h7 ?_ hro
 simp only [Tryz.ntmps220,List.size_toArray,List.length_cons,List.length_nil,Nat.reduceAdd,Nat.reduceSub,Array.replicate_succ,Array.replicate_zero,List.push_toArray,List.append_toArray,List.nil_append,List.cons_append]
 gi_wp2
 gi_loopw [4] (fun p wr=>∃ k K:Nat,k≤chN m each∧K=k*each∧p=.int .i64 (K:Nat)∧Hid (J (upto (fun k=>k) k) wr∧Kp w0 wr)) (fun p _=>(chN m each+1)*each-(intOf p).toNat)
 case atStart=>exact ⟨0,0,Nat.zero_le _,by simp,rfl,h0,hW⟩
 case round =>
  obtain ⟨k,K,hk,hK,rfl,HJ⟩:=hrel
  obtain ⟨q1,q2⟩:=hKs wr HJ.out.2
  by_cases hlt:k<chN m each
  ·have hke:k*each<m:=(zvF he).1 hlt
   obtain ⟨ad,rfl⟩:∃ ad,A=some ad:=by
    cases A with
    | none=>have:=hA rfl;omega
    | some ad=>exact ⟨ad,rfl⟩
   have hYr:=hY _ k wr.drew (hJ _ _ _ none HJ.out.1 ⟨rfl,rfl,rfl,Nat.le_refl _,fun _ _ _=>rfl⟩ (fun r e=>by cases e)) (by rw [znA];exact hlt)
   obtain ⟨fn,tmps,assign,body,hy,hRR⟩:=hYr
   have HRR:=LH hRR
   have HKS:=LH hKs
   unfold chV chL at hy
   rw [← hK] at hy hke
   dsimp only [Option.map] at hy
   have HKT:=LH (show ∀ W,Kp wr.drew W→Kp w0 W from fun W h=>hKt (hKt HJ.out.2 (hKd wr)) h)
   clear hRR hKs hY h0 hKt hKd hJ
   have hK1:(K:Int)<m:=by omega
   have hne:¬ (c=K):=by omega
   have hin:0≤(K:Int)∧(K:Int)≤m:=by omega
   obtain ⟨L,hL⟩:∃ L:Nat,L=min each (m-K):=⟨_,rfl⟩
   rw [← hL] at hy
   have hw0:IntKind.i64.wrap ((K:Int)+L)=(K:Int)+L:=IntWalk.i64_in _ (by omega)
   have HK:=LH hK
   have HL:=LH hL
   clear hK hL
   have HKN:=LH (show (k+1)*each=K+each by rw [HK.out,Nat.succ_mul])
   have hL0:Hid ((if m-K<each then ((m-K:Nat):Int) else (each:Int))=(L:Nat)):=LH (by have:=HL.out;split <;> omega)
   have hLne:¬ (L=0):=by have:=HL.out;omega
   have hin2:0≤(K:Int)+L∧(K:Int)+L≤c:=by have:=HL.out;omega
   have hwn:IntKind.i64.wrap ((K:Int)+each)=(K:Int)+each:=IntWalk.i64_in _ (by omega)
   clear u0 hin
   have hin:0≤(K:Int)∧(K:Int)≤m:=by omega
   gi_wp2
   gi_region
   all_goals rw [hL0.out]
   all_goals gi_wp2
   all_goals
    refine HRR.out.mono ?_
    rintro e W3 (⟨rfl,hJ3,hk3⟩ | ⟨rfl,hJx3⟩)
    ·have HJ3:Hid (J (upto (fun k=>k) (k+1)) W3∧Kp w0 W3):=LH ⟨by rw [zaA];exact hJ3,HKT.out _ hk3⟩
     obtain ⟨p1,p2⟩:=HKS.out _ HJ3.out.2
     clear hJ3 hk3 q1 q2
     gi_wp2
     go_roundw
     case rel=>exact ⟨k+1,K+each,by omega,HKN.out.symm,by go_num,HJ3⟩
     case measure=>simp [intOf];have:=HKN.out;have:=zvF (m:=m) (k:=k) he;have h9:(k+1)*each≤chN m each*each:=Nat.mul_le_mul_right _ hlt;rw [Nat.succ_mul (chN m each)];omega
    ·have HX:=LH hJx3
     clear hJx3
     gi_wp2
     refine bodyPost_ret (results_none rfl _ _ _) rfl ?_
     exact ⟨⟨_,rfl⟩,.inr ⟨_,⟨k+1,hlt,(zaA _ _).symm⟩,HX.out⟩⟩
  ·obtain rfl:k=chN m each:=by omega
   have hke:¬ (chN m each*each<m):=fun h=>by have:=(zvF he).2 h;omega
   have hke':¬ ((K:Int)<m):=by omega
   have HJ2:=LH HJ.out.1
   clear HJ
   gi_wp2
   go_end0
   exact ⟨⟨_,rfl⟩,.inl (by simpa using HJ2.out)⟩
theorem zxF (F:Fence) (n:Nat) (h7:F.fn 220) (hro:F.round=none) (hn:1≤n) (Bs Bn B:Nat) (m each:Nat) (he:1≤each) (he2:each≤64) (hm:m≤100000000) (A:Option Addr) (c:Nat) (hmc:m≤c) (hA:A=none→c=0) (w:World)
    (hBs:Boxed w Bs 23 (.slice A m c)) (hBn:Boxed w Bn 3 (.int .i64 each)) :
    SeqStopsK F n Tryz.prog 220 #[.pointer (some ⟨Bs,0,none⟩),.pointer (some ⟨Bn,0,none⟩)] (fun x:Nat=>#[chV A m each x]) (KeepB B (fun k=>k=Bs∨k=Bn)) (fun ys=>ys=upto (fun k=>k) (chN m each))
     (fun pre=>∃ k,k≤chN m each∧pre=upto (fun k=>k) k) (chN m each) w:=fun l J Jx W hW hJ _ hY h0 =>
 zHI F n h7 hro hn l Bs Bn m each he he2 hm A c hmc hA (KeepB B (fun k=>k=Bs∨k=Bn)) (fun h k=>h.trans k) KeepB.drew W
  (fun W' hK=>⟨Boxed.cell (t:=23) ((hK.same _ (.inl rfl)).trans ((hW.block Bs hBs.lt).trans hBs)),Boxed.cell (t:=3) ((hK.same _ (.inr rfl)).trans ((hW.block Bn hBn.lt).trans hBn))⟩) J Jx _ hJ hY W (KeepB.refl _ _ _) h0
end Go.Proofs.YtfkcpaahdlkcdaaGreat
namespace Go.Proofs.YtfkcpaahdlkcdaaGreat
open Go.RowKit Go.Shelf
attribute [local go_sem] Oper.semAt_some
theorem zLI (A:Option Addr) (n c:Nat) (w:World) :
    Calls Tryz.prog 221 #[.slice A n c] w fun e w'=>e=.returned (.func (.func 255) #[] #[.pointer (some ⟨w.heap.size,0,none⟩)])∧w'=w.alloc (.cells #[.slice A n c] 23):=by
 go_enter Tryz.func221,Tryz.ntmps221
 go_wp2
 go_ret
 exact ⟨rfl,rfl⟩
def backV (bs:List Int) (x:Nat):Array Value:=#[.int .i64 ((bs.length-1-x:Nat):Int),.int .u8 (bs.getD (bs.length-1-x) 0)]
theorem zXK (F:Fence) (n:Nat) (h7:F.fn 255) (hro:F.round=none) (hn:1≤n) (l Bs:Nat) (bs:List Int) (hlen:bs.length≤100000) (A:Option Addr) (c:Nat) (Kp:World→World→Prop) (hKt:∀ {a b c:World},Kp a b→Kp b c→Kp a c) (w0:World)
    (hKs:∀ W,Kp w0 W→W.cell? ⟨Bs,0,none⟩=some (.slice A bs.length c)∧SliceR 1 (.slice A bs.length c) bs.length (u8s bs) W) (J Jx:List Nat→World→Prop)
    (hY:∀ pre x W,J pre W→pre.length<bs.length→YieldAt F (n-1) Tryz.prog l (backV bs x) W fun e W' =>
     (e=.returned (.bool true)∧J (pre++[x]) W'∧Kp W W')∨(e=.returned (.bool false)∧Jx (pre++[x]) W'))
    (W:World) (hW:Kp w0 W) (h0:J [] W) :
    CallsIn F n Tryz.prog 255 #[.func (.yield l) #[] #[],.pointer (some ⟨Bs,0,none⟩)] W fun e W'=>(∃ v,e=.returned v) ∧
     ((∃ ys,ys=upto (fun k=>k) bs.length∧J ys W')∨(∃ pre,(∃ k,k≤bs.length∧pre=upto (fun k=>k) k)∧Jx pre W')):=by
 have HKS:=LH hKs
 have HKT:=LH (show ∀ a b c:World,Kp a b→Kp b c→Kp a c from fun a b c=>hKt)
 have hc0:=(hKs W hW).1
 have hwl:IntKind.i64.wrap ((bs.length:Int)-1)=(bs.length:Int)-1:=IntWalk.i64_in _ (by omega)
 refine callsIn_of_wp Tryz.func255 rfl h7 ?_ hro
 simp only [Tryz.ntmps255,List.size_toArray,List.length_cons,List.length_nil,Nat.reduceAdd,Nat.reduceSub,Array.replicate_succ,Array.replicate_zero,List.push_toArray,List.append_toArray,List.nil_append,List.cons_append]
 clear hKs hKt
 gi_wp2
 clear hc0 hwl
 gi_loopw [3] (fun p wr=>∃ (k:Nat) (z:Int),k≤bs.length∧z=(bs.length:Int)-1-k∧p=.int .i64 z∧Hid (J (upto (fun k=>k) k) wr∧Kp w0 wr)) (fun p _=>(intOf p+1).toNat)
 case atStart=>exact ⟨0,_,Nat.zero_le _,by simp,rfl,h0,hW⟩
 case round =>
  obtain ⟨k,z,hk,hz,rfl,HJ⟩:=hrel
  obtain ⟨q1,hs⟩:=HKS.out wr HJ.out.2
  by_cases hlt:k<bs.length
  ·obtain ⟨j,rfl⟩:∃ j:Nat,z=j:=⟨z.toNat,by omega⟩
   have hj:bs.length-1-k=j:=by omega
   have hjl:j<bs.length:=by omega
   obtain ⟨ad,rfl,q2⟩:=SliceR.int_at (k:=.u8) hs j hjl
   obtain ⟨fn,tmps,assign,body,hy,hRR⟩:=hY _ k wr HJ.out.1 (by rw [znA];exact hlt)
   unfold backV at hy
   have hg:bs.getD j 0=bs[j]:=by simp [List.getD_eq_getElem?_getD,hjl]
   rw [hj,hg] at hy
   have HRR:=LH hRR
   have hj0:0≤(j:Int):=by omega
   have hjl':(j:Int)<bs.length:=by omega
   have hwj:IntKind.i64.wrap ((j:Int)-1)=(j:Int)-1:=IntWalk.i64_in _ (by omega)
   have HZ:=LH hz
   clear hRR hs hz hj hg
   gi_wp2
   refine HRR.out.mono ?_
   rintro e W3 (⟨rfl,hJ3,hk3⟩ | ⟨rfl,hJx3⟩)
   ·have HJ3:Hid (J (upto (fun k=>k) (k+1)) W3∧Kp w0 W3):=LH ⟨by rw [zaA];exact hJ3,HKT.out _ _ _ HJ.out.2 hk3⟩
    clear hJ3 hk3 q1 q2
    gi_wp2
    go_roundw
    case rel=>exact ⟨k+1,(j:Int)-1,by omega,by have:=HZ.out;omega,rfl,HJ3⟩
    case measure=>simp [intOf]
   ·have HX:=LH hJx3
    clear hJx3
    gi_wp2
    refine bodyPost_ret (results_none rfl _ _ _) rfl ?_
    exact ⟨⟨_,rfl⟩,.inr ⟨_,⟨k+1,hlt,(zaA _ _).symm⟩,HX.out⟩⟩
  ·obtain rfl:k=bs.length:=by omega
   have hz0:¬ (0≤z):=by omega
   have HJ2:=LH HJ.out.1
   clear HJ hz
   gi_wp2
   go_end0
   exact ⟨⟨_,rfl⟩,.inl (by simpa using HJ2.out)⟩
theorem zMI (F:Fence) (n:Nat) (h7:F.fn 255) (hro:F.round=none) (hn:1≤n) (bs:List Int) (hlen:bs.length≤100000) (A:Option Addr) (c:Nat) (w0:World) (hR:SliceR 1 (.slice A bs.length c) bs.length (u8s bs) w0) (Bs:Nat) (w:World) (hw:Below w0.heap.size w0 w)
    (hBs:Boxed w Bs 23 (.slice A bs.length c)) :
    SeqStopsK F n Tryz.prog 255 #[.pointer (some ⟨Bs,0,none⟩)] (backV bs) (KeepB w0.heap.size (fun k=>k=Bs)) (fun ys=>ys=upto (fun k=>k) bs.length)
     (fun pre=>∃ k,k≤bs.length∧pre=upto (fun k=>k) k) bs.length w:=fun l J Jx W hW _ _ hY h0 =>
 zXK F n h7 hro hn l Bs bs hlen A c (KeepB w0.heap.size (fun k=>k=Bs)) (fun h k=>h.trans k) W
  (fun W' hK=>⟨Boxed.cell (t:=23) ((hK.same _ rfl).trans ((hW.block Bs hBs.lt).trans hBs)),hR.grow (Keep.of_below ((hw.trans (hW.mono hw.size)).trans hK.below))⟩) J Jx hY W (KeepB.refl _ _ _) h0
def leW:List Int→Int
 | []=>0
 | b :: r=>b+256*leW r
def valP (bs:List Int) (pre:List Nat):Int:=pre.foldl (fun n x=>n*256+bs.getD (bs.length-1-x) 0) 0
theorem zxC (bs:List Int) (pre:List Nat) (x:Nat):valP bs (pre++[x])=valP bs pre*256+bs.getD (bs.length-1-x) 0:=by simp [valP]
theorem zhH {bs:List Int} (hb:OkB bs) (i:Nat):0≤bs.getD i 0∧bs.getD i 0≤255:=by
 rw [List.getD_eq_getElem?_getD]
 cases h:bs[i]? with
 | none=>simp
 | some x=>exact hb x (List.mem_of_getElem? h)
theorem zZE {bs:List Int} (hb:OkB bs):∀ (m:Nat) (pre:List Nat),pre.length=m→0≤valP bs pre∧valP bs pre<256 ^ m
 | 0,pre,h=>by
  obtain rfl:pre=[]:=List.eq_nil_of_length_eq_zero h
  simp [valP]
 | m+1,pre,h=>by
  have hne:pre≠[]:=fun e=>by rw [e] at h;simp at h
  obtain ⟨p,x,rfl⟩:∃ p x,pre=p++[x]:=⟨pre.dropLast,pre.getLast hne,(List.dropLast_concat_getLast hne).symm⟩
  have ih:=zZE hb m p (by simpa using h)
  have hx:=zhH hb (bs.length-1-x)
  rw [zxC]
  have e:(256:Int) ^ (m+1)=256 ^ m*256:=Int.pow_succ ..
  rw [e]
  omega
theorem zzF (bs:List Int):∀ k,k≤bs.length→valP bs (upto (fun k=>k) k)=leW (bs.drop (bs.length-k))
 | 0,_=>by simp [valP,upto,leW]
 | k+1,h=>by
  rw [zaA,zxC,zzF bs k (by omega)]
  have hl:bs.length-(k+1)<bs.length:=by omega
  rw [show bs.drop (bs.length-(k+1))=bs[bs.length-(k+1)] :: bs.drop (bs.length-(k+1)+1) from List.drop_eq_getElem_cons hl]
  rw [show bs.length-(k+1)+1=bs.length-k from by omega]
  simp only [leW]
  rw [show bs.length-1-k=bs.length-(k+1) from by omega,List.getD_eq_getElem?_getD,List.getElem?_eq_getElem hl]
  simp
  omega
theorem ziH (bs:List Int):valP bs (upto (fun k=>k) bs.length)=leW bs:=by
 rw [zzF bs bs.length (Nat.le_refl _)];simp
theorem zEM {bs:List Int} (hb:OkB bs) (h8:bs.length≤8):0≤leW bs∧leW bs≤18446744073709551615:=by
 have h:=zZE hb bs.length (upto (fun k=>k) bs.length) (znA _ _)
 rw [ziH] at h
 have h2:(256:Int) ^ bs.length≤256 ^ 8:=by
  have:=Nat.pow_le_pow_right (show 0<256 by decide) h8
  have e:((256 ^ bs.length:Nat):Int)=(256:Int) ^ bs.length:=by rw [Int.natCast_pow];rfl
  have e8:((256 ^ 8:Nat):Int)=(256:Int) ^ 8:=by rw [Int.natCast_pow];rfl
  omega
 have h3:(256:Int) ^ 8=18446744073709551616:=by decide
 omega
theorem zFM {v b:Int} (h0:0≤v) (h1:v≤72057594037927935) (h2:0≤b) (h3:b≤255):bits .or .u64 (v*256) b=v*256+b:=by
 obtain ⟨n,rfl⟩:∃ n:Nat,v=n:=⟨v.toNat,by omega⟩
 obtain ⟨m,rfl⟩:∃ m:Nat,b=m:=⟨b.toNat,by omega⟩
 have h8:(2:Nat) ^ 8=256:=rfl
 have h:=Nat.two_pow_add_eq_or_of_lt (i:=8) (b:=m) (by rw [h8];omega) n
 rw [h8] at h
 have e:(n:Int)*256=((256*n:Nat):Int):=by omega
 rw [e,u64_or_nat (256*n) m (by omega) (by omega),← h]
 omega
theorem zNI (ad:Addr) (c:Nat) (l:List Int) (hb:OkB l) (h8:l.length≤8) (w:World) (hR:SliceR 1 (.slice (some ad) l.length c) l.length (u8s l) w) :
    Calls Tryz.prog 170 #[.slice (some ad) l.length c] w fun e w'=>e=.returned (.int .u64 (leW l))∧Grow w w':=by
 have hmin:min ((l.length:Nat):Int) 8=l.length:=by omega
 have hcap:l.length≤c:=by
  obtain ⟨A',c',e,hc,_,hA,_⟩:=hR
  injection e with e1 e2 e3
  subst e3
  exact hc
 have hin:0≤(l.length:Int)∧(l.length:Int)≤c:=by omega
 refine (callsIn_wide (n:=3)).1 ?_
 refine callsIn_of_wp_marks Tryz.func170 rfl trivial ?_ rfl
 simp only [Tryz.ntmps170,List.size_toArray,List.length_cons,List.length_nil,Nat.reduceAdd,Nat.reduceSub,Array.replicate_succ,Array.replicate_zero,List.push_toArray,List.append_toArray,List.nil_append,List.cons_append]
 gi_wp2_with (refine ⟨trivial,?_⟩;gi_at_call 221;refine (callsIn_wide.2 (zLI (some ad) l.length c _)).mono ?_;rintro e w' ⟨rfl,rfl⟩)
 have bN:=Boxed.new w 22 (.int .u64 0)
 have bS:=Boxed.new (w.alloc (.cells #[qN] 22)) 23 (.slice (some ad) l.length c)
 have c1:=bN.alloc (.cells #[.slice (some ad) l.length c] 23)
 simp only [World.size_alloc] at bS
 have hB0:Below w.heap.size w ((w.alloc (.cells #[qN] 22)).alloc (.cells #[.slice (some ad) l.length c] 23)):=((Below.refl _ w).alloc (Nat.le_refl _) _).alloc (by simp) _
 obtain ⟨W0,hW0⟩:∃ W0,((w.alloc (.cells #[qN] 22)).alloc (.cells #[.slice (some ad) l.length c] 23))=W0:=⟨_,rfl⟩
 have hsz:W0.heap.size=w.heap.size+2:=by rw [← hW0];simp
 rw [hW0] at c1 bS hB0 ⊢
 clear hW0 bN
 refine wpIn_rangeFunc_ownG rfl (show 1≤3 by omega) (gf:=255) (lb:=#[.pointer (some ⟨w.heap.size+1,0,none⟩)]) rfl trivial (enters_of Tryz.func255 (by kernel_rfl) rfl)
  (zMI Fence.wide _ trivial rfl (by omega) l (by omega) (some ad) c w hR (w.heap.size+1) W0 hB0 bS) (fun h k=>h.trans k) (KeepB.put (by omega) (by intro k hk;omega)) (Below.refl _ _) (fun _=>rfl)
  (fun pre W=>Boxed W w.heap.size 22 (.int .u64 (valP l pre))∧Below w.heap.size w W)
  (fun _ _ _=>False)
  (fun s W W' row hs hg hr=>⟨hs.1.kept hg (fun e=>by have:=(hr _ e.symm).1;omega),ownFrom_below (β:=Unit) (Nat.le_refl _) (show w.heap.size≤W0.heap.size by omega) () W W' row hs.2 hg hr⟩)
  (fun _ _ _ _ _ hs _ _=>hs)
  ⟨c1,hB0⟩
  (fun x=>{ tmps:=#[.slice (some ad) l.length c,undef,.int .u64 0,.pointer (some ⟨w.heap.size,0,none⟩),undef,.int .u8 (l.getD (l.length-1-x) 0),.slice (some ad) l.length c,.slice (some ad) l.length c,.int .i64 l.length,.int .i64 l.length,.slice (some ad) l.length c,.func (.func 255) #[] #[.pointer (some ⟨w.heap.size+1,0,none⟩)],.int .i64 ((l.length-1-x:Nat):Int),.int .u8 (l.getD (l.length-1-x) 0),undef,undef,undef,undef,undef,undef],defers:=[] }) ?assign ?body ?done ?stop
 case assign =>
  intro l' x W K hK
  unfold backV
  gi_wp2
  exact hK
 case body =>
  rintro l' pre x W ⟨hN,hB⟩ hlt
  have hx:=zhH hb (l.length-1-x)
  have hv:=zZE hb pre.length pre rfl
  have hp7:(256:Int) ^ pre.length≤256 ^ 7:=by
   have:=Nat.pow_le_pow_right (show 0<256 by decide) (show pre.length≤7 by omega)
   have e:((256 ^ pre.length:Nat):Int)=(256:Int) ^ pre.length:=by rw [Int.natCast_pow];rfl
   have e8:((256 ^ 7:Nat):Int)=(256:Int) ^ 7:=by rw [Int.natCast_pow];rfl
   omega
  have h3:(256:Int) ^ 7=72057594037927936:=by decide
  have HS:=LH (zxC l pre x)
  obtain ⟨v,hvv⟩:∃ v,valP l pre=v:=⟨_,rfl⟩
  obtain ⟨b,hbb⟩:∃ b,l.getD (l.length-1-x) 0=b:=⟨_,rfl⟩
  rw [hvv,hbb] at HS
  rw [hbb] at hx ⊢
  rw [hvv] at hv hN
  have hv1:v≤72057594037927935:=by omega
  have hv0:=hv.1
  have hb0:=hx.1
  have hb1:=hx.2
  have q1:=hN.cell
  have f1:=hN.frozen
  have HN:=LH hN
  have HB:=LH hB
  clear hvv hbb hv hx hp7 h3 hN hB
  gi_wp2
  refine ⟨(KeepsOthers.setCell _ _ _).from _,(KeepB.refl _ _ _).set (Nat.le_refl _) (by intro k hk;omega) _,?_,HB.out.setCell (p:=⟨w.heap.size,0,none⟩) (Nat.le_refl _) _⟩
  rw [HS.out,zFM hv0 hv1 hb0 hb1]
  exact HN.out.set _
 case done =>
  rintro D ys W hD rfl ⟨hN,hB⟩ hK
  rw [ziH] at hN
  have hc:=hN.cell
  gi_wp2
  have hc2:=(hN.kept (grownBy_putObj' W D (.deferred none)) (fun e=>by injection e;omega)).cell
  refine ⟨by simp,.inl ⟨_,_,rfl,run_takeDeferred hK,?_⟩⟩
  refine ⟨_,results_tmp rfl _ _ _,rfl,Keep.of_below (hB.trans (belowK_b (w:=w) (Nat.le_refl _) W D _ _ (by omega) hK rfl rfl))⟩
 case stop =>
  rintro D c' pre W _ _ h _
  exact h.elim
end Go.Proofs.YtfkcpaahdlkcdaaGreat

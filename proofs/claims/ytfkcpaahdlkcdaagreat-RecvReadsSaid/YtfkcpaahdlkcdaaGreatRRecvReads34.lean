import Derived.Test.YtfkcpaahdlkcdaaGreatRRecvReads31
import Derived.Test.YtfkcpaahdlkcdaaGreatRRecvReads32
import Derived.Test.YtfkcpaahdlkcdaaGreatRRecvReads33
set_option linter.unusedSimpArgs false
set_option linter.unusedVariables false
set_option maxRecDepth 100000
set_option maxHeartbeats 16000000
namespace Go.Proofs.YtfkcpaahdlkcdaaGreat
open Go.RowKit
theorem zfI (n:Int):bits .and .i64 n 255=n%256:=by
 have h255:(BitVec.ofInt 64 255).toNat=2 ^ 8-1:=by decide
 have key:(BitVec.ofInt 64 n &&& BitVec.ofInt 64 255).toNat=(n%((2 ^ 64:Nat):Int)).toNat%2 ^ 8:=by
  rw [BitVec.toNat_and,BitVec.toNat_ofInt,h255,Nat.and_two_pow_sub_one_eq_mod]
 show IntKind.i64.wrap ((BitVec.ofInt 64 n &&& BitVec.ofInt 64 255).toNat:Nat)=n%256
 rw [key,IntKind.wrap_i64]
 omega
def dN (c:Nat):Nat:=c%16+64*(c/64)
theorem zqH:∀ c:Fin 256,bits .andNot .i64 ((c.1:Nat):Int) 48=((dN c.1:Nat):Int)∧bits .and .i64 ((dN c.1:Nat):Int) 15=((c.1%16:Nat):Int)∧bits .and .i64 (((dN c.1:Nat):Int)/16) 7=(if c.1/64%2=0 then 0 else 4):=by decide +kernel
theorem SliceR.sub {ad:Addr} {c:Nat} {l:List Int} {f:Int→Value} {w:World} (h:SliceR 1 (.slice (some ad) l.length c) l.length (l.map f) w) (o m:Nat) (hm:o+m≤l.length):SliceR 1 (.slice (some (ad.add o)) m (c-o)) m (((l.drop o).take m).map f) w:=by
 obtain ⟨A',c',e,hc,hl,hA,hq⟩:=h
 injection e with e1 e2 e3
 subst e1;subst e3
 refine ⟨_,_,rfl,by omega,by simp;omega,(fun e=>by cases e),fun j u hu=>⟨_,rfl,?_⟩⟩
 have hj:j<m:=by
  rcases Nat.lt_or_ge j m with h | h
  ·exact h
  ·rw [List.getElem?_eq_none (by simp;omega)] at hu;cases hu
 have hu2:(l.map f)[o+j]? = some u:=by
  rw [← hu]
  simp [hj]
 obtain ⟨ad',e,hc'⟩:=hq (o+j) u hu2
 injection e with e
 subst e
 rw [Addr.add_add]
 exact hc'
theorem zSF (a:List (List Int)) (ho:OkA a) (hfit:fitsB (szs a)=true) (hfl:a.flatten.length≤1000000) (i:Nat) (hi:64*i<(rB a.flatten).length) (A:Option Addr) (c:Nat) (w:World) (hR:RowsR .u64 a (.slice A a.length c) w) :
    Calls Tryz.prog 31 #[.slice A a.length c,.int .i64 i] w fun e w'=>∃ A c,e=.returned (.slice A (chunkP a i).length c)∧Grow w w'∧Foot (SliceR 1 (.slice A (chunkP a i).length c) (chunkP a i).length (u8s (chunkP a i))) w' (fun k=>w.heap.size≤k∧k<w'.heap.size):=by
 have HB:=LH (zDD a ho hfl A c w hR)
 have H:=LH hR
 have HF:=LH hfit
 have EC:Hid (chunkP a i=((rB a.flatten).drop (64*i)).take 64):=LH (by unfold chunkP pieceL;rw [zCD a ho,Nat.mul_comm])
 have hbl:(rB a.flatten).length≤8000000:=by rw [zMB];omega
 clear hR hfit hfl ho
 go_enter Tryz.func31,Tryz.ntmps31
 go_wp2_with fail
 refine HB.out.mono ?_
 rintro e w1 ⟨A1,c1,rfl,hg,hown⟩
 obtain ⟨r,cap,e1,_,hcap,hcells⟩:=zMA hown (by omega)
 injection e1 with e1 _ e3
 subst e1
 subst e3
 have HG:=LH hg
 replace H:=LH (H.out.grow hg)
 have HC:=LH hcells
 have HO:Hid (Foot (SliceR 1 (.slice (some ⟨r,0,none⟩) (rB a.flatten).length c1) (rB a.flatten).length (u8s (rB a.flatten))) w1 (fun k=>w.heap.size≤k∧k<w1.heap.size)):=LH ((Foot.of_own hown).mono (fun k hk=>hk.2) (fun k hk=>hown.lt k hk))
 clear hg hown hcells HB
 go_wp2_with fail
 refine (zcB a A c w1 H.out HF.out).mono ?_
 rintro e w2 ⟨rfl,hg⟩
 replace HG:=LH (HG.out.grow hg)
 have HO2:Hid (Foot (SliceR 1 (.slice (some ⟨r,0,none⟩) (rB a.flatten).length c1) (rB a.flatten).length (u8s (rB a.flatten))) w2 (fun k=>w.heap.size≤k∧k<w2.heap.size)):=LH ((HO.out.grow hg).mono (fun k hk=>hk.2) (fun k hk=>⟨hk.1,Nat.lt_of_lt_of_le hk.2 hg.size⟩))
 have HC2:Hid (∀ (j:Nat) u,(u8s (rB a.flatten))[j]? = some u→w2.cell? ⟨r,0+j,none⟩=some u):=LH (fun j u hu=>hg.cell (HC.out j u hu) (fun h=>h))
 clear hg
 generalize rB a.flatten=bs at *
 have hi0:¬ ((i:Int)<0):=by omega
 have hi1:0≤(i:Int):=by omega
 have hw1:IntKind.i64.wrap ((bs.length:Int)+63)=(bs.length:Int)+63:=IntWalk.i64_in _ (by omega)
 have hw2:IntKind.i64.wrap (64*(i:Int))=64*(i:Int):=IntWalk.i64_in _ (by omega)
 have hw3:IntKind.i64.wrap (64*(i:Int)+64)=64*(i:Int)+64:=IntWalk.i64_in _ (by omega)
 have hp:0≤(bs.length:Int)+63:=by omega
 have hge:¬ (((bs.length:Int)+63)/64≤(i:Int)):=by omega
 have h641:64*(i:Int)≤c1:=by omega
 have HFIN:∀ m,m=min 64 (bs.length-64*i)→Hid (Foot (SliceR 1 (.slice (some ⟨r,64*i,none⟩) (chunkP a i).length (c1-64*i)) (chunkP a i).length (u8s (chunkP a i))) w2 (fun k=>w.heap.size≤k∧k<w2.heap.size)∧(chunkP a i).length=m):=fun m hm=>by
  have e1:(chunkP a i).length=m:=by rw [EC.out];simp;omega
  have e2:chunkP a i=(bs.drop (64*i)).take m:=by
   rw [EC.out]
   rcases Nat.le_total 64 (bs.length-64*i) with h | h
   ·rw [show m=64 from by omega]
   ·rw [List.take_of_length_le (by simp;omega),List.take_of_length_le (by simp;omega)]
  refine LH ⟨HO2.out.imp (fun u hu=>?_),e1⟩
  have hp:=hu.sub (64*i) m (by omega)
  rw [zyC,← e2] at hp
  rw [e1]
  exact hp
 by_cases hm:64*i+64<bs.length
 ·have hm1:64*(i:Int)+64<(bs.length:Int):=by omega
  have hm2:64*(i:Int)+64≤(bs.length:Int):=by omega
  have hm3:¬ ((bs.length:Int)≤64*(i:Int)+64):=by omega
  have HF1:=HFIN (64*i+64-64*i) (by omega)
  clear HFIN
  go_wp2
  go_ret
  refine ⟨some ⟨r,64*i,none⟩,c1-64*i,?_,HG.out,HF1.out.1⟩
  rw [HF1.out.2];rfl
 ·by_cases hme:64*i+64=bs.length
  ·have hm1:64*(i:Int)+64=(bs.length:Int):=by omega
   have HF1:=HFIN (bs.length-64*i) (by omega)
   clear HFIN hm
   rw [hm1] at hw3
   go_wp2
   go_ret
   refine ⟨some ⟨r,64*i,none⟩,c1-64*i,?_,HG.out,HF1.out.1⟩
   rw [HF1.out.2];rfl
  ·have hm1:¬ (64*(i:Int)+64<(bs.length:Int)):=by omega
   have hm2:¬ (64*(i:Int)+64≤(bs.length:Int)):=by omega
   have hm3:(bs.length:Int)≤64*(i:Int)+64:=by omega
   have hm4:(bs.length:Int)<64*(i:Int)+64:=by omega
   have HF1:=HFIN (bs.length-64*i) (by omega)
   clear HFIN hm hme
   go_wp2
   go_ret
   refine ⟨some ⟨r,64*i,none⟩,c1-64*i,?_,HG.out,HF1.out.1⟩
   rw [HF1.out.2];rfl
theorem zDB (l:List Int) (i:Nat):pageP l i=(l.drop (4*i)).take 4:=by unfold pageP pieceL;rw [Nat.mul_comm]
theorem zPH (session sum:Int) (ad:Addr) (c:Nat) (l:List Int) (w:World) (h:SliceR 1 (.slice (some ad) l.length c) l.length (ints l) w) (hf:fitsB l=true) (i:Nat) (hi:i<pagesN l) :
    Calls Tryz.prog 45 #[.agg #[.int .u64 session,.slice (some ad) l.length c,.int .u32 sum],.int .i64 i] w fun e w'=>e=.returned (.slice (some (ad.add (4*i))) (pageP l i).length (c-4*i))∧Grow w w':=by
 have hg0:=(Keep.refl NoB w).alloc (.cells #[.int .u64 session,.slice (some ad) l.length c,.int .u32 sum] 40)
 have HP:=LH (zhC session sum l (some ad) c _ (h.grow hg0) hf)
 have HG:=LH hg0
 have HZ:=LH (heap_alloc_new w (.cells #[.int .u64 session,.slice (some ad) l.length c,.int .u32 sum] 40))
 obtain ⟨hl1,hl2,-,-⟩:=zM hf
 have hlc:l.length≤c:=by
  obtain ⟨_,_,e,h2,_⟩:=h
  injection e with _ _ e3
  omega
 have hi4:4*i<l.length:=by unfold pagesN at hi;omega
 have hpl:(pageP l i).length=min 4 (l.length-4*i):=by rw [zDB,List.length_take,List.length_drop]
 have HI:=LH hi
 clear h hf hg0
 have hi0:¬ ((i:Int)<0):=by omega
 have hi1:¬ ((pagesN l:Int)≤i):=by omega
 have hi2:0≤(i:Int):=by omega
 have hw2:IntKind.i64.wrap (4*(i:Int))=4*(i:Int):=IntWalk.i64_in _ (by omega)
 have hw3:IntKind.i64.wrap (4*(i:Int)+4)=4*(i:Int)+4:=IntWalk.i64_in _ (by omega)
 have h641:4*(i:Int)≤c:=by omega
 clear hi
 go_enter Tryz.func45,Tryz.ntmps45
 go_wp2_with fail
 refine HP.out.mono ?_
 rintro e w1 ⟨rfl,hg⟩
 replace HG:=LH (HG.out.grow hg)
 replace HZ:=LH (Grow.heap hg HZ.out)
 clear hg HP
 obtain ⟨z0,z1,z2,zf⟩:=zI HZ.out
 by_cases hm:4*i+4<l.length
 ·have hm1:4*(i:Int)+4<(l.length:Int):=by omega
  have hm2:4*(i:Int)+4≤(l.length:Int):=by omega
  have hm3:¬ ((l.length:Int)≤4*(i:Int)+4):=by omega
  have HE:Hid ((pageP l i).length=4*i+4-4*i):=LH (by omega)
  clear hpl
  go_wp2
  go_ret
  exact ⟨by rw [HE.out];rfl,HG.out⟩
 ·by_cases hme:4*i+4=l.length
  ·have hm1:4*(i:Int)+4=(l.length:Int):=by omega
   have HE:Hid ((pageP l i).length=l.length-4*i):=LH (by omega)
   clear hm hpl
   rw [hm1] at hw3
   go_wp2
   go_ret
   exact ⟨by rw [HE.out];rfl,HG.out⟩
  ·have hm1:¬ (4*(i:Int)+4<(l.length:Int)):=by omega
   have hm2:¬ (4*(i:Int)+4≤(l.length:Int)):=by omega
   have hm3:(l.length:Int)≤4*(i:Int)+4:=by omega
   have hm4:(l.length:Int)<4*(i:Int)+4:=by omega
   have HE:Hid ((pageP l i).length=l.length-4*i):=LH (by omega)
   clear hm hme hpl
   go_wp2
   go_ret
   exact ⟨by rw [HE.out];rfl,HG.out⟩
theorem zXG (a:List (List Int)) (k:Nat):(szs a).take k=szs (a.take k):=by simp [szs,List.map_take]
theorem zML (a:List (List Int)) (k:Nat):offN (szs a) k=(a.take k).flatten.length:=by
 unfold offN
 rw [zXG,zUD]
 simp
theorem zjD (a:List (List Int)):arenaW a.flatten (szs a)=a:=by
 apply List.ext_getElem (by rw [zXA,zo])
 intro k h1 h2
 have e:a.flatten=(a.take k).flatten++(a[k]++(a.drop (k+1)).flatten):=by
  conv=>lhs;rw [← List.take_append_drop k a,List.drop_eq_getElem_cons h2]
  rw [List.flatten_append,List.flatten_cons]
 have h3:(szs a).getD k 0=(a[k].length:Int):=by simp [szs,List.getD_eq_getElem?_getD,h2]
 simp only [arenaW,List.getElem_map,List.getElem_range,rowAt,h3,zML,Int.toNat_natCast]
 rw [e,List.drop_left,List.take_left]
structure RX where
 s:Int
 a:List (List Int)
 m:Nat
 q:Int
def RX.P (x:RX):Nat:=pagesN (szs x.a)
def RX.Q (x:RX):Nat:=chunksN (szs x.a)
def RX.pgs (x:RX):List (List Int):=(List.range x.P).map (pageP (szs x.a))
structure RX.Ok (x:RX):Prop where
 s0:0≤x.s
 s1:x.s≤18446744073709551615
 m:x.m<4294967296
 a:OkA x.a
 fit:fitsB (szs x.a)=true
theorem RX.pgs_length (x:RX):x.pgs.length=x.P:=by simp [RX.pgs]
theorem RX.pgs_get (x:RX) (i:Nat) (hi:i<x.pgs.length):x.pgs[i]=pageP (szs x.a) i:=by simp [RX.pgs]
theorem zME (l:List Int):∀ k,((List.range k).map (pageP l)).flatten=l.take (4*k)
 | 0=>by simp
 | k+1=>by
  rw [List.range_succ,List.map_append,List.flatten_append,zME l k,show 4*(k+1)=4*k+4 by omega,List.take_add]
  simp [zDB]
theorem RX.Ok.pages {x:RX} (h:x.Ok):PagesOk x.pgs (szs x.a):=by
 obtain ⟨h1,h2,-,-⟩:=zM h.fit
 have hP:x.P=((szs x.a).length+3)/4:=rfl
 refine ⟨by rw [x.pgs_length];omega,fun i hi=>?_,fun i hi hn=>?_,h.fit,?_⟩
 ·rw [x.pgs_length] at hi
  rw [x.pgs_get,zDB,List.length_take,List.length_drop]
  omega
 ·rw [x.pgs_length] at hi hn
  rw [x.pgs_get,zDB,List.length_take,List.length_drop]
  omega
 ·rw [RX.pgs,zME,List.take_of_length_le (by omega)]
theorem RX.Ok.small {x:RX} (h:x.Ok):1≤x.P∧x.P≤4∧1≤x.Q∧x.Q≤512∧x.a.flatten.length≤4096∧((x.a.flatten.length:Int)=(szs x.a).sum)∧x.Q=(x.a.flatten.length+7)/8:=by
 obtain ⟨h1,h2,h3,h4⟩:=zM h.fit
 have hs:=zUD x.a
 have hh:1≤(szs x.a).headD 0:=by
  have:=h.fit
  unfold fitsB at this
  simp only [decide_eq_true_eq] at this
  exact this.2.2.1
 have hm:(szs x.a).headD 0≤(szs x.a).sum:=by
  cases hz:szs x.a with
  | nil=>rw [hz] at h1;simp at h1
  | cons y r =>
   rw [hz] at h3
   exact zGB h3 y (List.mem_cons_self ..)
 have hP:x.P=((szs x.a).length+3)/4:=rfl
 have hQ:x.Q=((szs x.a).sum.toNat+7)/8:=rfl
 omega
inductive RSt where
 | idle
 | hear (hs:Nat→Bool)
 | part (kb:List Int)
 | ready
 | fail (e:Nat)
def allH (x:RX) (hs:Nat→Bool):Bool:=(List.range x.P).all hs
def hearS (x:RX) (hs:Nat→Bool):RSt:=if allH x hs=true then (if x.q<8*(szs x.a).sum then .fail 31 else .part (makeB x.Q)) else .hear hs
def offS (x:RX) (s:RSt) (j:Nat):RSt :=
 match s with
 | .idle=>hearS x (fun i=>i==j)
 | .hear hs=>if hs j=true then .hear hs else hearS x (fun i=>i==j||hs i)
 | s=>s
def failK:RSt→Option Int
 | .fail _=>some 5
 | _=>none
def offK (x:RX) (s:RSt) (j:Nat):Option Int :=
 match s with
 | .idle=>failK (offS x .idle j)
 | .hear hs=>failK (offS x (.hear hs) j)
 | _=>none
def endS (x:RX):RSt:=if x.m=sumP x.s x.a then (if checkP x.a=0 then .ready else .fail (checkP x.a).toNat) else .fail 12
def datS (x:RX) (s:RSt) (i:Nat):RSt :=
 match s with
 | .part kb=>if getB kb i=true then .part kb else if popB (setB kb i)<x.Q then .part (setB kb i) else endS x
 | s=>s
def datK (x:RX) (s:RSt) (i:Nat):Option Int :=
 match s with
 | .idle=>some 3
 | .part kb=>failK (datS x (.part kb) i)
 | _=>none
def RvOut (k:Option Int) (w0:World) (v:Value) (w:World):Prop :=
 match k with
 | none=>v=.slice none 0 0
 | some k=>∃ b s i m,v=.slice (some ⟨b,0,none⟩) 1 1∧OneG w b k s i 0 m∧w0.heap.size≤b
structure Rv0 (x:RX) (g sn:Nat) (rc:RC) (k:KS) (Gk F:Nat→Prop) (w:World):Prop where
 cell:RCell g rc w
 st:rc.st=sn
 quota:rc.quota=x.q
 kat:KAt sn k Gk w
 gk:¬ KF sn k g
 gg:¬ Gk g
 fg:F g
 fk:∀ j,KF sn k j→F j
 fG:∀ j,Gk j→F j
 n:k.n=0
 f0:k.f=fun _=>none
 lo:k.lo.n=0
 part:rc.part=none
 err:rc.err=0
def parD (x:RX) (kb:List Int):Par:=⟨x.s,szs x.a,x.m,wordsK x.a.flatten kb,kb⟩
structure Rv1 (x:RX) (g sn:Nat) (rc:RC) (b:Nat) (p:PP) (kb:List Int) (G:Nat→Prop) (k:KS) (Gk F:Nat→Prop) (w:World):Prop where
 at_:RcvAt g rc b p (parD x kb) G k Gk w
 st:rc.st=sn
 quota:rc.quota=x.q
 s:rc.session=x.s
 m:rc.sum=x.m
 err:rc.err=0
 ok:BitsOk kb x.Q
 lo:k.lo.n=1+popB kb
 n:k.n=popB kb
 f1:∀ j,RF g sn b p k j→F j
 f2:∀ j,G j→F j
 f3:∀ j,Gk j→F j
def RvI (x:RX) (g st:Nat) (s:RSt) (F:Nat→Prop) (w:World):Prop :=
 match s with
 | .idle=>∃ rc k Gk,Rv0 x g st rc k Gk F w∧rc.phase=0
 | .hear hs=>∃ rc k Gk G,Rv0 x g st rc k Gk F w∧rc.phase=1∧rc.of=(x.P:Int)∧rc.session=x.s∧rc.sum=x.m∧Hear rc x.pgs G w∧¬ G g∧(∀ j,G j→F j∧¬ KF st k j)∧(∀ j,j<x.P→rc.h j=hs j)∧allH x hs=false
 | .part kb=>∃ rc b p G k Gk,Rv1 x g st rc b p kb G k Gk F w∧rc.phase=1∧popB kb<x.Q
 | .ready=>∃ rc b p kb G k Gk,Rv1 x g st rc b p kb G k Gk F w∧rc.phase=2∧(∀ i,i<x.Q→getB kb i=true)∧checkP x.a=0
 | .fail e=>∃ rc:RC,RCell g (rc.fail e) w∧rc.st=st∧F g∧e≠0∧(e=31→x.q<8*(szs x.a).sum∧∃ k Gk,KAt st k Gk w∧(k.f=fun _=>none)∧(∀ j,KF st k j→F j)∧∀ j,Gk j→F j)
theorem Rv0.small {x:RX} {g st:Nat} {rc:RC} {k:KS} {Gk F:Nat→Prop} {w:World} (h:Rv0 x g st rc k Gk F w):g<w.heap.size∧(∀ j,KF st k j→j<w.heap.size)∧∀ j,Gk j→j<w.heap.size:=⟨h.cell.lt,h.kat.small,h.kat.ro.1⟩
theorem Rv0.keep {x:RX} {g st:Nat} {rc:RC} {k:KS} {Gk F S:Nat→Prop} {w w':World} (h:Rv0 x g st rc k Gk F w) (hk:Keep S w w') (hS:∀ j,F j→¬ S j):Rv0 x g st rc k Gk F w' :=
 ⟨h.cell.keep hk (hS g h.fg),h.st,h.quota,h.kat.keep hk (fun j hj=>hS j (h.fk j hj)) (fun j hj=>hS j (h.fG j hj)),h.gk,h.gg,h.fg,h.fk,h.fG,h.n,h.f0,h.lo,h.part,h.err⟩
theorem Rv1.keep {x:RX} {g st:Nat} {rc:RC} {b:Nat} {p:PP} {kb:List Int} {G:Nat→Prop} {k:KS} {Gk F S:Nat→Prop} {w w':World} (h:Rv1 x g st rc b p kb G k Gk F w) (hk:Keep S w w') (hS:∀ j,F j→¬ S j):Rv1 x g st rc b p kb G k Gk F w' :=
 ⟨h.at_.keep hk (fun j hj=>hS j (h.f1 j (by rw [← h.st];exact hj))) (fun j hj=>hS j (h.f2 j hj)) (fun j hj=>hS j (h.f3 j hj)),h.st,h.quota,h.s,h.m,h.err,h.ok,h.lo,h.n,h.f1,h.f2,h.f3⟩
theorem RvI.keep {x:RX} {g st:Nat} {s:RSt} {F S:Nat→Prop} {w w':World} (h:RvI x g st s F w) (hk:Keep S w w') (hS:∀ j,F j→¬ S j):RvI x g st s F w':=by
 cases s with
 | idle =>
  obtain ⟨rc,k,Gk,h0,hp⟩:=h
  exact ⟨rc,k,Gk,h0.keep hk hS,hp⟩
 | hear hs =>
  obtain ⟨rc,k,Gk,G,h0,h1,h2,h3,h4,h5,h6,h7,h8,h9⟩:=h
  exact ⟨rc,k,Gk,G,h0.keep hk hS,h1,h2,h3,h4,h5.keep hk (fun j hj=>hS j (h7 j hj).1),h6,h7,h8,h9⟩
 | part kb =>
  obtain ⟨rc,b,p,G,k,Gk,h0,h1,h2⟩:=h
  exact ⟨rc,b,p,G,k,Gk,h0.keep hk hS,h1,h2⟩
 | ready =>
  obtain ⟨rc,b,p,kb,G,k,Gk,h0,h1,h2⟩:=h
  exact ⟨rc,b,p,kb,G,k,Gk,h0.keep hk hS,h1,h2⟩
 | fail e =>
  obtain ⟨rc,h0,h1,h2,h3,h4⟩:=h
  exact ⟨rc,h0.keep hk (hS g h2),h1,h2,h3,fun e9=>by
   obtain ⟨q,k,Gk,k1,k2,k3,k4⟩:=h4 e9
   exact ⟨q,k,Gk,k1.keep hk (fun j hj=>hS j (k3 j hj)) (fun j hj=>hS j (k4 j hj)),k2,k3,k4⟩⟩
theorem RvI.grow {x:RX} {g st:Nat} {s:RSt} {F:Nat→Prop} {w w':World} (h:RvI x g st s F w) (hk:Grow w w'):RvI x g st s F w':=h.keep hk (fun _ _ h=>h)
def RvStep (x:RX) (g st:Nat) (s:RSt) (kd:Option Int) (F:Nat→Prop) (w:World) (v:Value) (w':World):Prop :=
 RvOut kd w v w'∧∃ F',RvI x g st s F' w'∧Keep F w w'∧(∀ j,F' j→F j∨w.heap.size≤j)∧∀ j,F' j→j<w'.heap.size
theorem RvStep.same {x:RX} {g st:Nat} {s:RSt} {F:Nat→Prop} {w w':World} (h:RvI x g st s F w) (hF:∀ j,F j→j<w.heap.size) (hg:Grow w w'):RvStep x g st s none F w (.slice none 0 0) w' :=
 ⟨rfl,F,h.grow hg,hg.mono (fun _ h=>h.elim),fun j hj=>.inl hj,fun j hj=>Nat.lt_of_lt_of_le (hF j hj) hg.size⟩
theorem RC.setH_h (d:RC) (i:Nat) (hi:i<4) (j:Nat) (hj:j<4):(d.setH i).h j=(if j=i then true else d.h j):=by
 have:=(d.set_h i hi ⟨none,0,0⟩ j hj).1
 rwa [RC.setZ_h] at this
theorem zDF {x:RX} (hx:x.Ok) {rc:RC} {hs:Nat→Bool} {i:Nat} (hi:i<x.P) (hh:∀ j,j<x.P→rc.h j=hs j):((List.range x.P).map (rc.setH i).h).contains false = ! allH x (fun j=>j==i||hs j):=by
 have h4:=hx.small.2.1
 rw [Bool.eq_iff_iff]
 simp only [List.contains_iff_mem,List.mem_map,List.mem_range,Bool.not_eq_true',allH,List.all_eq_false]
 constructor
 ·rintro ⟨j,hj,e⟩
  rw [RC.setH_h _ _ (by omega) _ (by omega)] at e
  refine ⟨j,hj,?_⟩
  split at e
  ·cases e
  ·rename_i hne
   rw [hh j hj] at e
   simp [hne,e]
 ·rintro ⟨j,hj,e⟩
  refine ⟨j,hj,?_⟩
  rw [RC.setH_h _ _ (by omega) _ (by omega)]
  simp at e
  rw [if_neg e.1,hh j hj]
  exact e.2
theorem Rv0.again {x:RX} {g st:Nat} {rc rc':RC} {k:KS} {Gk F F':Nat→Prop} {w w':World} (h:Rv0 x g st rc k Gk F w) (hk:Keep (fun j=>j=g) w w') (hc:RCell g rc' w') (e1:rc'.st=rc.st) (e2:rc'.quota=rc.quota) (e3:rc'.part=rc.part) (e4:rc'.err=rc.err) (hF:∀ j,F j→F' j):Rv0 x g st rc' k Gk F' w' :=
 ⟨hc,e1.trans h.st,e2.trans h.quota,h.kat.keep hk (fun j hj e=>h.gk (by rw [← e];exact hj)) (fun j hj e=>h.gg (by rw [← e];exact hj)),h.gk,h.gg,hF _ h.fg,fun j hj=>hF j (h.fk j hj),fun j hj=>hF j (h.fG j hj),h.n,h.f0,h.lo,e3.trans h.part,e4.trans h.err⟩
theorem zYG {x:RX} (hx:x.Ok) {g st:Nat} {rc rc0 rc':RC} {k:KS} {Gk F:Nat→Prop} {w w':World} (h:Rv0 x g st rc k Gk F w) (hF:∀ j,F j→j<w.heap.size) {hs:Nat→Bool} {i:Nat} (hi:i<x.P) (hh:∀ j,j<x.P→rc0.h j=hs j) (hno:allH x (fun j=>j==i||hs j)=false) {s:Sl} (hrc:rc'=(rc0.setH i).setZ i s)
    (e1:rc0.st=rc.st) (e2:rc0.quota=rc.quota) (e3:rc0.part=rc.part) (e4:rc0.phase=1) (e5:rc0.of=(x.P:Int)) (e6:rc0.session=x.s) (e7:rc0.sum=x.m) (e8:rc0.err=rc.err) {G':Nat→Prop} (hc:RCell g rc' w') (hH:Hear rc' x.pgs G' w') (hk:Keep (fun j=>j=g) w w') (hG:∀ j,G' j→(F j∧¬ KF st k j∧j≠g)∨w.heap.size≤j) :
    ∃ F',RvI x g st (.hear (fun j=>j==i||hs j)) F' w'∧(∀ j,F' j→F j∨w.heap.size≤j)∧∀ j,F' j→j<w'.heap.size:=by
 have h4:=hx.small.2.1
 have hr:=RC.set_rest rc0 i (by omega) s
 rw [← hrc] at hr
 have hsm:=h.small
 have hg:=h.small.1
 refine ⟨fun j=>F j∨G' j,⟨rc',k,Gk,G',h.again hk hc (by rw [hr];exact e1) (by rw [hr];exact e2) (by rw [hr];exact e3) (by rw [hr];exact e8) (fun j hj=>.inl hj),by rw [hr];exact e4,by rw [hr];exact e5,by rw [hr];exact e6,by rw [hr];exact e7,hH,fun e=>?_,fun j hj=>⟨.inr hj,fun e=>?_⟩,fun j hj=>?_,hno⟩,fun j hj=>hj.elim .inl (fun e=>(hG j e).imp (fun h=>h.1) id),fun j hj=>hj.elim (fun e=>Nat.lt_of_lt_of_le (hF j e) hk.size) (hH.1 j)⟩
 ·rcases hG g e with e2 | e2
  ·exact e2.2.2 rfl
  ·omega
 ·rcases hG j hj with e2 | e2
  ·exact e2.2.1 e
  ·have:=hsm.2.1 j e;omega
 ·rw [hrc,(RC.set_h rc0 i (by omega) s j (by omega)).1,hh j hj]
  by_cases e:j=i
  ·simp [e]
  ·simp [e]
theorem zZG {x:RX} (hx:x.Ok) {g st:Nat} {rc rc':RC} {k:KS} {Gk F:Nat→Prop} {w w':World} (h:Rv0 x g st rc k Gk F w) (hF:∀ j,F j→j<w.heap.size) {b:Nat} {p:PP} {Gp:Nat→Prop} {A:Option Addr} {c m:Nat} {S:Nat→Prop}
    (hc:RCell g (rc'.begin ⟨b,0,none⟩ x.s x.m) w') (e1:rc'.st=rc.st) (e2:rc'.quota=rc.quota) (e3:rc'.err=rc.err) (hP:PAt b p ⟨x.s,szs x.a,x.m,List.replicate (szs x.a).sum.toNat 0,makeB (chunksN (szs x.a))⟩ Gp w') (hK:KAt rc.st ((k.clear m).step A c) NoB w') (hk:Keep S w w') (hS:∀ j,S j→F j)
    (hb:w.heap.size≤b) (hw:w.heap.size≤p.wb) (hG:∀ j,Gp j→w.heap.size≤j) (hKF:∀ j,KF rc.st ((k.clear m).step A c) j→(KF rc.st k j∨w.heap.size≤j)∧j≠b∧j≠p.wb∧¬ Gp j) :
    ∃ F',RvI x g st (.part (makeB x.Q)) F' w'∧Keep F w w'∧(∀ j,F' j→F j∨w.heap.size≤j)∧∀ j,F' j→j<w'.heap.size:=by
 have hsm:=h.small
 have hsx:=hx.small
 have hst:(rc'.begin ⟨b,0,none⟩ x.s x.m).st=st:=e1.trans h.st
 have hpd:parD x (makeB x.Q)=⟨x.s,szs x.a,x.m,List.replicate (szs x.a).sum.toNat 0,makeB (chunksN (szs x.a))⟩:=by
  unfold parD
  rw [zMH,← hsx.2.2.2.2.2.1]
  rfl
 have hbo:=BitsOk.make x.Q
 have hp0:popB (makeB x.Q)=0:=by
  rw [hbo.pop,List.filter_eq_nil_iff.2 (fun i _=>by rw [zwC];simp)]
  rfl
 have hKs:=hK.small
 have hPl:=hP.lt
 have hat:RcvAt g (rc'.begin ⟨b,0,none⟩ x.s x.m) b p (parD x (makeB x.Q)) Gp ((k.clear m).step A c) NoB w':=by
  rw [hpd]
  refine ⟨hc,rfl,hP,by rw [hst,← h.st];exact hK,⟨by omega,by omega,fun e=>by have:=hG g e;omega,fun e=>?_,fun e=>e⟩,fun j hj=>?_,⟨fun e=>e,fun e=>e⟩⟩
  ·rw [hst,← h.st] at e
   rcases (hKF g e).1 with e2 | e2
   ·rw [h.st] at e2;exact h.gk e2
   ·omega
  ·rw [hst,← h.st] at hj
   exact (hKF j hj).2
 refine ⟨fun j=>RF g st b p ((k.clear m).step A c) j∨Gp j,⟨_,b,p,Gp,_,NoB,⟨hat,hst,e2.trans h.quota,rfl,rfl,e3.trans h.err,hbo,by show (k.clear m).lo.n+1=_;rw [hp0];show k.lo.n+1=_;rw [h.lo],by rw [hp0];rfl,fun j hj=>.inl hj,fun j hj=>.inr hj,fun j hj=>hj.elim⟩,rfl,by rw [hp0];omega⟩,hk.mono hS,fun j hj=>?_,fun j hj=>?_⟩
 ·rcases hj with (e | e | e | e) | e
  ·rw [e];exact .inl h.fg
  ·exact .inr (by omega)
  ·exact .inr (by omega)
  ·rw [← h.st] at e
   exact (hKF j e).1.imp (fun e=>h.fk j (by rw [← h.st];exact e)) id
  ·exact .inr (hG j e)
 ·rcases hj with (e | e | e | e) | e
  ·rw [e];exact hc.lt
  ·rw [e];exact hPl.1
  ·rw [e];exact hPl.2
  ·rw [← h.st] at e;exact hKs j e
  ·exact hP.ro.1 j e
theorem zaG (x:RX) (i:Nat):allH x (fun j=>j==i||false)=allH x (fun j=>j==i):=by simp [allH]
theorem zTF {x:RX} (hx:x.Ok) {g st:Nat} {F:Nat→Prop} {w:World} (hF:∀ j,F j→j<w.heap.size) (i:Nat) (hi:i<x.P) (A1:Option Addr) (c1:Nat) {FS:Nat→Prop} (hS:Foot (SliceR 1 (.slice A1 (pageP (szs x.a) i).length c1) (pageP (szs x.a) i).length (ints (pageP (szs x.a) i))) w FS) (hFS:∀ j,FS j→¬ F j) (h:RvI x g st .idle F w) :
    Calls Tryz.prog 39 #[.pointer (some ⟨g,0,none⟩),.agg #[.int .i64 1,.int .u64 x.s,.int .i64 i,.int .i64 x.P,.int .u32 (x.m:Nat),.slice A1 (pageP (szs x.a) i).length c1,qI]] w fun e w'=>∃ v,e=.returned v∧RvStep x g st (offS x .idle i) (offK x .idle i) F w v w':=by
 obtain ⟨rc,k,Gk,h0,hp⟩:=h
 have h4:=hx.small.2.1
 have hpg:=hx.pages
 have hlen:=x.pgs_length
 have hil:i<x.pgs.length:=by omega
 have hpi:=x.pgs_get i hil
 have hl4:(x.pgs[i]'hil).length≤4:=by rw [hpi];exact zvC _ _
 refine zHC h0.cell _ _ _ _ _ _ _ _ _ _ (fun v w'=>RvStep x g st (offS x .idle i) (offK x .idle i) F w v w') (by rw [hp];decide) (fun w1 hg1=>?_)
 have h1:=h0.keep hg1 (fun _ _ h=>h)
 have hF1:∀ j,F j→j<w1.heap.size:=fun j hj=>Nat.lt_of_lt_of_le (hF j hj) hg1.size
 have hS1:=hS.grow hg1
 have hsg:∀ w',Keep (fun k=>k=g) w1 w'→SliceR 1 (.slice A1 (pageP (szs x.a) i).length c1) (pageP (szs x.a) i).length (ints (pageP (szs x.a) i)) w':=fun w' hk=>(hS1.keep hk (fun j hj e=>hFS j hj (by rw [e];exact h0.fg))).now
 have hw1:=hg1.size
 rw [← hpi] at hS1 hsg
 rw [← hlen,← hpi]
 have hh0:∀ j,j<x.P→(rc.hearing x.pgs.length x.s x.m).h j=false:=fun j _=>by unfold RC.h RC.hearing;split <;> rfl
 have hcon:=zDF hx (rc:=rc.hearing x.pgs.length x.s x.m) (hs:=fun _=>false) hi hh0
 rw [zaG] at hcon
 rw [← hlen] at hcon
 cases hall:allH x (fun j=>j==i) with
 | false =>
  rw [hall] at hcon
  refine (zUG h1.cell x.s x.m x.pgs (by omega) hp h1.part i hil A1 c1 hS1.now hl4 hsg hcon).mono ?_
  rintro e w' ⟨rfl,A,c,G',hr,hH,hk,hG⟩
  have hoff:offS x .idle i=.hear (fun j=>j==i||false):=by simp [offS,hearS,hall]
  obtain ⟨F',h9,hF9,hF10⟩:=zYG hx h1 hF1 hi hh0 (by rw [zaG];exact hall) (rc0:=rc.hearing x.pgs.length x.s x.m) rfl rfl rfl rfl rfl (by rw [← hlen];rfl) rfl rfl rfl hr hH hk (fun j hj=>(hG j hj).elim (fun h=>h.elim) .inr)
  refine ⟨_,rfl,by show RvOut (failK (offS x .idle i)) _ _ _;rw [hoff];rfl,F',by rw [hoff];exact h9,(hg1.mono (T:=F) (fun _ h=>h.elim)).trans hk (fun j e=>.inl (by rw [e];exact h0.fg)),fun j hj=>(hF9 j hj).imp id (fun h=>Nat.le_trans hw1 h),hF10⟩
 | true =>
  rw [hall] at hcon
  by_cases hq:x.q<8*(szs x.a).sum
  ·refine (zRF h1.cell x.s x.m x.pgs (by omega) hp h1.part i hil A1 c1 hS1.now hl4 hsg (szs x.a) hpg hcon (by rw [h1.quota];exact hq)).mono ?_
   rintro e w' ⟨b,rc',rfl,hO,hb,hr,hst,hk⟩
   have hoff:offS x .idle i=.fail 31:=by simp [offS,hearS,hall,hq]
   refine ⟨_,rfl,by show RvOut (failK (offS x .idle i)) _ _ _;rw [hoff];exact ⟨b,_,_,_,rfl,hO,Nat.le_trans hw1 hb⟩,F,by
    rw [hoff]
    exact ⟨rc',hr,hst.trans h1.st,h1.fg,by decide,fun _=>⟨hq,k,Gk,h1.kat.keep hk (fun j hj e=>h1.gk (by rw [← e];exact hj)) (fun j hj e=>h1.gg (by rw [← e];exact hj)),h1.f0,h1.fk,h1.fG⟩⟩,(hg1.mono (T:=F) (fun _ h=>h.elim)).trans hk (fun j e=>.inl (by rw [e];exact h0.fg)),fun j hj=>.inl hj,fun j hj=>Nat.lt_of_lt_of_le (hF1 j hj) hk.size⟩
  ·refine (zKH h1.cell x.s x.m x.pgs (by omega) hp h1.part i hil A1 c1 hS1.now hl4 hsg (szs x.a) hpg hcon (by rw [h1.quota];omega) ⟨hx.s0,hx.s1⟩ hx.m (k:=k) (Gk:=Gk) (by rw [h1.st];exact h1.kat) h1.gg (by rw [h1.lo];omega) (by rw [h1.st];exact h1.gk)).mono ?_
   rintro e w' ⟨rfl,rc',b,p,Gp,A,c,m,hr,hst,hqu,hrs,her,hP,hK,hk,hb,hw,hG,hKF⟩
   have hoff:offS x .idle i=.part (makeB x.Q):=by simp [offS,hearS,hall,hq]
   obtain ⟨F',h9,hk9,hF9,hF10⟩:=zZG hx h1 hF1 hr hst hqu her hP hK hk (fun j hj=>hj.elim (fun e=>by rw [e];exact h1.fg) (fun e=>h1.fk j (by rw [← h1.st];exact e))) hb hw hG hKF
   exact ⟨_,rfl,by show RvOut (failK (offS x .idle i)) _ _ _;rw [hoff];rfl,F',by rw [hoff];exact h9,(hg1.mono (T:=F) (fun _ h=>h.elim)).trans hk9 (fun j e=>.inl e),fun j hj=>(hF9 j hj).imp id (fun h=>Nat.le_trans hw1 h),hF10⟩
theorem zUF {x:RX} (hx:x.Ok) {g st:Nat} {F:Nat→Prop} {w:World} (hF:∀ j,F j→j<w.heap.size) (i:Nat) (hi:i<x.P) (A1:Option Addr) (c1:Nat) {FS:Nat→Prop} (hS:Foot (SliceR 1 (.slice A1 (pageP (szs x.a) i).length c1) (pageP (szs x.a) i).length (ints (pageP (szs x.a) i))) w FS) (hFS:∀ j,FS j→¬ F j) {hs:Nat→Bool} (h:RvI x g st (.hear hs) F w) :
    Calls Tryz.prog 39 #[.pointer (some ⟨g,0,none⟩),.agg #[.int .i64 1,.int .u64 x.s,.int .i64 i,.int .i64 x.P,.int .u32 (x.m:Nat),.slice A1 (pageP (szs x.a) i).length c1,qI]] w fun e w'=>∃ v,e=.returned v∧RvStep x g st (offS x (.hear hs) i) (offK x (.hear hs) i) F w v w':=by
 have hI:=h
 obtain ⟨rc,k,Gk,G,h0,hp,hof,hs_,hm_,hH0,hgG,hG0,hh0,hal⟩:=h
 have h4:=hx.small.2.1
 have hpg:=hx.pages
 have hlen:=x.pgs_length
 have hil:i<x.pgs.length:=by omega
 have hpi:=x.pgs_get i hil
 have hl4:(x.pgs[i]'hil).length≤4:=by rw [hpi];exact zvC _ _
 refine zHC h0.cell _ _ _ _ _ _ _ _ _ _ (fun v w'=>RvStep x g st (offS x (.hear hs) i) (offK x (.hear hs) i) F w v w') (by rw [hp];decide) (fun w1 hg1=>?_)
 have h1:=h0.keep hg1 (fun _ _ h=>h)
 have hF1:∀ j,F j→j<w1.heap.size:=fun j hj=>Nat.lt_of_lt_of_le (hF j hj) hg1.size
 have hS1:=hS.grow hg1
 have hsg:∀ w',Keep (fun k=>k=g) w1 w'→SliceR 1 (.slice A1 (pageP (szs x.a) i).length c1) (pageP (szs x.a) i).length (ints (pageP (szs x.a) i)) w':=fun w' hk=>(hS1.keep hk (fun j hj e=>hFS j hj (by rw [e];exact h0.fg))).now
 have hw1:=hg1.size
 have hH1:=hH0.keep hg1 (fun _ _ h=>h)
 by_cases hhi:hs i=true
 ·have hoff:offS x (.hear hs) i=.hear hs:=by simp [offS,hhi]
  have hok:offK x (.hear hs) i=none:=by show failK (offS x (.hear hs) i)=none;rw [hoff];rfl
  rw [hoff,hok,← hs_,← hm_]
  refine (zSG h1.cell hp h1.part x.P i (by rw [hof]) (by omega) h4 hi (by rw [hh0 i hi];exact hhi) A1 none _ c1 0 0).mono ?_
  rintro e w' ⟨rfl,hg⟩
  exact ⟨_,rfl,RvStep.same hI hF (hg1.grow hg)⟩
 have hhf:hs i=false:=by simpa using hhi
 have hrh:rc.h i=false:=by rw [hh0 i hi];exact hhf
 rw [← hpi] at hS1 hsg
 rw [← hlen,← hpi]
 have hcon:=zDF hx (rc:=rc) (hs:=hs) hi hh0
 rw [← hlen] at hcon
 have hof1:rc.of=(x.pgs.length:Int):=by rw [hof,hlen]
 cases hall:allH x (fun j=>j==i||hs j) with
 | false =>
  rw [hall] at hcon
  refine (zTG h1.cell x.s x.m x.pgs (by omega) hp h1.part hof1 hs_ hm_ i hil hrh hH1 hgG A1 c1 hS1.now hl4 hsg hcon).mono ?_
  rintro e w' ⟨rfl,A,c,G',hr,hH,hk,hG⟩
  have hoff:offS x (.hear hs) i=.hear (fun j=>j==i||hs j):=by simp [offS,hhf,hearS,hall]
  obtain ⟨F',h9,hF9,hF10⟩:=zYG hx h1 hF1 hi hh0 hall (rc0:=rc) rfl rfl rfl rfl hp hof hs_ hm_ rfl hr hH hk (fun j hj=>(hG j hj).imp (fun h=>⟨(hG0 j h).1,(hG0 j h).2,fun e=>hgG (by rw [← e];exact h)⟩) id)
  refine ⟨_,rfl,by show RvOut (failK (offS x (.hear hs) i)) _ _ _;rw [hoff];rfl,F',by rw [hoff];exact h9,(hg1.mono (T:=F) (fun _ h=>h.elim)).trans hk (fun j e=>.inl (by rw [e];exact h0.fg)),fun j hj=>(hF9 j hj).imp id (fun h=>Nat.le_trans hw1 h),hF10⟩
 | true =>
  rw [hall] at hcon
  by_cases hq:x.q<8*(szs x.a).sum
  ·refine (zQF h1.cell x.s x.m x.pgs (by omega) hp h1.part hof1 hs_ hm_ i hil hrh hH1 hgG A1 c1 hS1.now hl4 hsg (szs x.a) hpg hcon (by rw [h1.quota];exact hq)).mono ?_
   rintro e w' ⟨b,rc',rfl,hO,hb,hr,hst,hk⟩
   have hoff:offS x (.hear hs) i=.fail 31:=by simp [offS,hhf,hearS,hall,hq]
   refine ⟨_,rfl,by show RvOut (failK (offS x (.hear hs) i)) _ _ _;rw [hoff];exact ⟨b,_,_,_,rfl,hO,Nat.le_trans hw1 hb⟩,F,by
    rw [hoff]
    exact ⟨rc',hr,hst.trans h1.st,h1.fg,by decide,fun _=>⟨hq,k,Gk,h1.kat.keep hk (fun j hj e=>h1.gk (by rw [← e];exact hj)) (fun j hj e=>h1.gg (by rw [← e];exact hj)),h1.f0,h1.fk,h1.fG⟩⟩,(hg1.mono (T:=F) (fun _ h=>h.elim)).trans hk (fun j e=>.inl (by rw [e];exact h0.fg)),fun j hj=>.inl hj,fun j hj=>Nat.lt_of_lt_of_le (hF1 j hj) hk.size⟩
  ·refine (zJH h1.cell x.s x.m x.pgs (by omega) hp h1.part hof1 hs_ hm_ i hil hrh hH1 hgG A1 c1 hS1.now hl4 hsg (szs x.a) hpg hcon (by rw [h1.quota];omega) ⟨hx.s0,hx.s1⟩ hx.m (k:=k) (Gk:=Gk) (by rw [h1.st];exact h1.kat) h1.gg (by rw [h1.lo];omega) (by rw [h1.st];exact h1.gk) (fun j hj=>by rw [h1.st];exact (hG0 j hj).2)).mono ?_
   rintro e w' ⟨rfl,rc',b,p,Gp,A,c,m,hr,hst,hqu,hrs,her,hP,hK,hk,hb,hw,hG,hKF⟩
   have hoff:offS x (.hear hs) i=.part (makeB x.Q):=by simp [offS,hhf,hearS,hall,hq]
   obtain ⟨F',h9,hk9,hF9,hF10⟩:=zZG hx h1 hF1 hr hst hqu her hP hK hk (fun j hj=>hj.elim (fun e=>by rw [e];exact h1.fg) (fun e=>h1.fk j (by rw [← h1.st];exact e))) hb hw hG hKF
   exact ⟨_,rfl,by show RvOut (failK (offS x (.hear hs) i)) _ _ _;rw [hoff];rfl,F',by rw [hoff];exact h9,(hg1.mono (T:=F) (fun _ h=>h.elim)).trans hk9 (fun j e=>.inl e),fun j hj=>(hF9 j hj).imp id (fun h=>Nat.le_trans hw1 h),hF10⟩
theorem zNL {x:RX} (hx:x.Ok) {g st:Nat} {F:Nat→Prop} {w:World} (hF:∀ j,F j→j<w.heap.size) (i:Nat) (hi:i<x.P) (A1:Option Addr) (c1:Nat) {FS:Nat→Prop} (hS:Foot (SliceR 1 (.slice A1 (pageP (szs x.a) i).length c1) (pageP (szs x.a) i).length (ints (pageP (szs x.a) i))) w FS) (hFS:∀ j,FS j→¬ F j) {s:RSt} (h:RvI x g st s F w) :
    Calls Tryz.prog 39 #[.pointer (some ⟨g,0,none⟩),.agg #[.int .i64 1,.int .u64 x.s,.int .i64 i,.int .i64 x.P,.int .u32 (x.m:Nat),.slice A1 (pageP (szs x.a) i).length c1,qI]] w fun e w'=>∃ v,e=.returned v∧RvStep x g st (offS x s i) (offK x s i) F w v w':=by
 have hpart:∀ {rc:RC} {b:Nat} {p:PP} {kb:List Int} {G:Nat→Prop} {k:KS} {Gk:Nat→Prop},Rv1 x g st rc b p kb G k Gk F w→rc.phase≠3→rc.phase≠0→∀ (R:Value→World→Prop),(∀ w',Rv1 x g st { rc with resumed:=false,closed:=false } b p kb G k Gk F w'→Keep (fun j=>j=g) w w'→R (.slice none 0 0) w') →
  Calls Tryz.prog 39 #[.pointer (some ⟨g,0,none⟩),.agg #[.int .i64 1,.int .u64 x.s,.int .i64 i,.int .i64 x.P,.int .u32 (x.m:Nat),.slice A1 (pageP (szs x.a) i).length c1,qI]] w fun e w'=>∃ v,e=.returned v∧R v w':=fun {rc b p kb G k Gk} h1 hp3 hp0 R hR=>by
   have hgs:=h1.at_.cell.lt
   refine zHC h1.at_.cell _ _ _ _ _ _ _ _ _ _ R hp3 (fun w1 hg1=>?_)
   have h2:=h1.keep hg1 (fun _ _ h=>h)
   rw [← h1.s,← h1.m]
   refine (zNH h2.at_.cell hp0 h1.at_.part i x.P A1 none _ c1 0 0).mono ?_
   rintro e w' ⟨rfl,hr,hk⟩
   have hgb:=h2.at_.gb
   refine ⟨_,rfl,hR w' ⟨⟨hr,h1.at_.part,h2.at_.pat.keep hk (fun e=>hgb.1 e.symm) (fun e=>hgb.2.1 e.symm) (fun j hj e=>hgb.2.2.1 (by rw [← e];exact hj)),h2.at_.kat.keep hk (fun j hj e=>hgb.2.2.2.1 (by rw [← e];exact hj)) (fun j hj e=>hgb.2.2.2.2 (by rw [← e];exact hj)),hgb,h2.at_.kf,h2.at_.kg⟩,h1.st,h1.quota,h1.s,h1.m,h1.err,h1.ok,h1.lo,h1.n,h1.f1,h1.f2,h1.f3⟩ ((hg1.mono (T:=fun j=>j=g) (fun _ h=>h.elim)).trans hk (fun j e=>.inl e))⟩
 cases s with
 | idle=>exact zTF hx hF i hi A1 c1 hS hFS h
 | hear hs=>exact zUF hx hF i hi A1 c1 hS hFS h
 | part kb =>
  obtain ⟨rc,b,p,G,k,Gk,h1,hp,hno⟩:=h
  refine hpart h1 (by rw [hp];decide) (by rw [hp];decide) _ (fun w' h2 hk=>⟨rfl,F,⟨_,b,p,G,k,Gk,h2,hp,hno⟩,hk.mono (fun j e=>by rw [e];exact h1.f1 g (.inl rfl)),fun j hj=>.inl hj,fun j hj=>Nat.lt_of_lt_of_le (hF j hj) hk.size⟩)
 | ready =>
  obtain ⟨rc,b,p,kb,G,k,Gk,h1,hp,hal⟩:=h
  refine hpart h1 (by rw [hp];decide) (by rw [hp];decide) _ (fun w' h2 hk=>⟨rfl,F,⟨_,b,p,kb,G,k,Gk,h2,hp,hal⟩,hk.mono (fun j e=>by rw [e];exact h1.f1 g (.inl rfl)),fun j hj=>.inl hj,fun j hj=>Nat.lt_of_lt_of_le (hF j hj) hk.size⟩)
 | fail e =>
  have hI:=h
  obtain ⟨rc,h0,_⟩:=h
  refine (zMD h0 x.s i x.P x.m A1 none _ c1 0 0 rfl 1).mono ?_
  rintro e w' ⟨rfl,hg⟩
  exact ⟨_,rfl,RvStep.same hI hF hg⟩
def deedV (d:Int):Value:=.agg #[.int .u8 0,.int .i64 d,qJ,qN,qJ,qJ,qO,qI,qI,qI,qI]
def pageG (x:RX) (ad:Addr) (cm j:Nat):Value:=.agg #[.int .i64 1,.int .u64 x.s,.int .i64 (j:Nat),.int .i64 (x.P:Nat),.int .u32 (x.m:Nat),.slice (some (ad.add (4*j))) (pageP (szs x.a) j).length (cm-4*j),qI]
def chunkG (x:RX) (A:Option Addr) (c i:Nat):Value:=.agg #[qQ,.int .u64 x.s,.int .i64 (i:Nat),.int .i64 (x.Q:Nat),.int .u32 (x.m:Nat),qI,.slice A (chunkP x.a i).length c]
def GramPost (x:RX) (ad:Addr) (cm c:Nat) (w:World) (e:Ending) (w':World):Prop :=
 Grow w w'∧((c/64%2=0∧e=.returned (pageG x ad cm (c%16%x.P)))∨(c/64%2≠0∧∃ A2 c2,e=.returned (chunkG x A2 c2 (c%16%x.Q))∧Foot (SliceR 1 (.slice A2 (chunkP x.a (c%16%x.Q)).length c2) (chunkP x.a (c%16%x.Q)).length (u8s (chunkP x.a (c%16%x.Q)))) w' (fun k=>w.heap.size≤k∧k<w'.heap.size)))
def phaseS:RSt→Int
 | .idle=>0
 | .hear _=>1
 | .part _=>1
 | .ready=>2
 | .fail _=>3
def errS:RSt→Int
 | .fail e=>e
 | _=>0
theorem zIM {win back retry:Int} {x:RX} (hc:OkC win back retry x.q) {s:Nat} {k:KS} {w:World} (h:KAt s k NoB w) (hf:k.f=fun _=>none) (hnt:k.nt=⟨none,0,0⟩) (hlo:k.lo=⟨none,0,0⟩) (hn:k.n=0) :
    Calls Tryz.prog 35 #[.agg #[.int .i64 win,.int .i64 back,.int .i64 retry,.int .i64 x.q],.pointer (some ⟨s,0,none⟩)] w fun e w'=>∃ g F,e=.returned (.tuple #[.pointer (some ⟨g,0,none⟩),.int .u16 0])∧Grow w w'∧RvI x g s .idle F w'∧(∀ j,F j→w.heap.size≤j∨KF s k j)∧∀ j,F j→j<w'.heap.size:=by
 refine (zJE hc h hnt).mono ?_
 rintro e w' ⟨g,rfl,hr,hg,hgs⟩
 have hsm:=h.small
 have hk:=h.grow hg
 refine ⟨g,fun j=>j=g∨KF s k j,rfl,hg,⟨_,k,NoB,⟨hr,rfl,rfl,hk,fun e=>by have:=hsm g e;omega,fun e=>e,.inl rfl,fun j hj=>.inr hj,fun j hj=>hj.elim,hn,hf,by rw [hlo],rfl,rfl⟩,rfl⟩,fun j hj=>hj.imp (fun e=>by rw [e];exact hgs) id,fun j hj=>hj.elim (fun e=>by rw [e];exact hr.lt) (hk.small j)⟩
theorem zvJ {x:RX} {g st:Nat} {s:RSt} {F:Nat→Prop} {w:World} (h:RvI x g st s F w):Calls Tryz.prog 43 #[.pointer (some ⟨g,0,none⟩)] w fun e w'=>(∃ a b:Int,e=.returned (.agg #[.int .i64 (phaseS s),.int .u16 (errS s),.int .i64 a,.int .i64 b]))∧Grow w w':=by
 cases s with
 | idle =>
  obtain ⟨rc,k,Gk,h0,hp⟩:=h
  have:=zGC h0.cell h0.part
  rw [hp,h0.err] at this
  exact this.mono fun e w' ⟨h1,h2⟩=>⟨⟨_,_,h1⟩,h2⟩
 | hear hs =>
  obtain ⟨rc,k,Gk,G,h0,hp,_⟩:=h
  have:=zGC h0.cell h0.part
  rw [hp,h0.err] at this
  exact this.mono fun e w' ⟨h1,h2⟩=>⟨⟨_,_,h1⟩,h2⟩
 | part kb =>
  obtain ⟨rc,b,p,G,k,Gk,h0,hp,_⟩:=h
  have:=zfC h0.at_.cell h0.at_.part h0.at_.pat
  rw [hp,h0.err] at this
  exact this.mono fun e w' ⟨h1,h2⟩=>⟨⟨_,_,h1⟩,h2⟩
 | ready =>
  obtain ⟨rc,b,p,kb,G,k,Gk,h0,hp,_⟩:=h
  have:=zfC h0.at_.cell h0.at_.part h0.at_.pat
  rw [hp,h0.err] at this
  exact this.mono fun e w' ⟨h1,h2⟩=>⟨⟨_,_,h1⟩,h2⟩
 | fail e =>
  obtain ⟨rc,h0,_⟩:=h
  exact (zGC h0 rfl).mono fun e w' ⟨h1,h2⟩=>⟨⟨_,_,h1⟩,h2⟩
def QOk (x:RX):RSt→Prop
 | .idle=>True
 | .hear _=>True
 | .part _=>8*(szs x.a).sum≤x.q
 | .ready=>8*(szs x.a).sum≤x.q
 | .fail e=>(e=31∧x.q<8*(szs x.a).sum)∨(e≠31∧8*(szs x.a).sum≤x.q)
theorem zvH (x:RX) (hs:Nat→Bool):QOk x (hearS x hs):=by
 unfold hearS
 split
 ·split
  ·rename_i h;exact .inl ⟨rfl,h⟩
  ·rename_i h;show 8*(szs x.a).sum≤x.q;omega
 ·trivial
theorem zJM {x:RX} {s:RSt} (h:QOk x s) (j:Nat):QOk x (offS x s j):=by
 cases s with
 | idle=>exact zvH x _
 | hear hs =>
  unfold offS
  simp only
  split
  ·exact h
  ·exact zvH x _
 | part kb=>exact h
 | ready=>exact h
 | fail e=>exact h
theorem zKM {x:RX} {s:RSt} (h:QOk x s) (i:Nat):QOk x (datS x s i):=by
 cases s with
 | part kb =>
  have hq:8*(szs x.a).sum≤x.q:=h
  have hc:=zEF x.a
  unfold datS
  simp only
  split
  ·exact h
  ·split
   ·exact h
   ·unfold endS
    split
    ·split
     ·exact hq
     ·exact .inr ⟨by omega,hq⟩
    ·exact .inr ⟨by decide,hq⟩
 | idle=>exact h
 | hear hs=>exact h
 | ready=>exact h
 | fail e=>exact h
end Go.Proofs.YtfkcpaahdlkcdaaGreat

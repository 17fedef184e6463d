import Derived.Test.YtfkcpaahdlkcdaaGreatRRecvReads03
import Derived.Test.YtfkcpaahdlkcdaaGreatRRecvReads04
set_option linter.unusedSimpArgs false
set_option linter.unusedVariables false
set_option maxRecDepth 100000
set_option maxHeartbeats 16000000
namespace Go.Proofs.YtfkcpaahdlkcdaaGreat
open Go.RowKit
def putB (x:Int) (s:Nat):List Int:=(List.range s).map (fun k=>x/2 ^ (8*k)%256)
theorem zX (x:Int) (s:Nat):(putB x s).length=s:=by simp [putB]
theorem zeH (l:List Int) (i:Nat) (x:Int):(u8s l).set i (.int .u8 x)=u8s (l.set i x):=by
 simp [u8s,List.map_set]
def putS (x:Int) (s k:Nat):List Int:=(List.range s).map (fun j=>if j<k then x/2 ^ (8*j)%256 else 0)
theorem zBJ (x:Int) (s k:Nat) (hk:k<s):(putS x s k).set k (x/2 ^ (8*k)%256)=putS x s (k+1):=by
 apply List.ext_getElem (by simp [putS])
 intro j h1 h2
 rw [List.getElem_set]
 simp only [putS,List.getElem_map,List.getElem_range]
 split
 ·rename_i e
  subst e
  rw [if_pos (by omega)]
 ·rename_i e
  by_cases hj:j<k
  ·rw [if_pos hj,if_pos (by omega)]
  ·rw [if_neg hj,if_neg (by omega)]
theorem zCJ (x:Int) (s:Nat):putS x s s=putB x s:=by
 unfold putS putB
 apply List.map_congr_left
 intro j hj
 rw [if_pos (by simpa using hj)]
theorem zLB (x:Int) (s:Nat) (w:World) (hx:0≤x) (hx2:x≤18446744073709551615) (h1:1≤s) (h8:s≤8) :
    Calls Tryz.prog 137 #[.int .u64 x,.int .i64 s] w fun e w'=>∃ A c,e=.returned (.slice A (putB x s).length c)∧Grow w w'∧w'.ownsRow w.heap.size 5 1 (.slice A (putB x s).length c) (putB x s).length (u8s (putB x s)):=by
 obtain ⟨ib,hib,hb1,hb2,hb3⟩:∃ i,Tryz.prog.info? 5=some i∧i.zero=some (.int .u8 0)∧i.size=1∧i.bytes=1:=by
  have h:=zz
  cases hi:Tryz.prog.info? 5 with
  | none=>rw [hi] at h;cases h
  | some i =>
   rw [hi] at h
   simp only [Option.map_some,Option.some.injEq,Prod.mk.injEq] at h
   exact ⟨i,rfl,h.1,h.2.1,h.2.2⟩
 have hs0:(0:Int)<s:=by omega
 have hs8:(s:Int)≤8:=by omega
 go_enter Tryz.func137,Tryz.ntmps137
 go_wp2_with (at_make;refine wpList_make_full _ rfl _ _ _ rfl w.heap.size 5 ib (.int .u8 0) 1 zW hib hb1 hb2 _ _ _ _ s rfl rfl rfl rfl (by rw [hb3];omega) (by simp [maxLen];omega) (Nat.le_refl _) ?_;intro w2 hown hgr;refine Hid.out ?_)
 refine LH ?_
 have h0:u8s (putS x s 0)=(madeCells (Value.int .u8 0).cells (s*1)).toList:=by
  apply List.ext_getElem (by simp [u8s,putS,madeCells,Value.cells])
  intro j h1 h2
  simp [u8s,putS,madeCells,Value.cells,Nat.mod_one]
 rw [← h0] at hown
 have HS:Hid (Grow w w2∧w2.ownsRow w.heap.size 5 1 (.slice (some ⟨w.heap.size,0,none⟩) s s) s (u8s (putS x s 0))):=⟨(Keep.refl NoB w).grown hgr (by simp),hown⟩
 clear hib hb1 hb2 hb3 hgr hown h0
 go_wp2
 go_loopw [13] (fun v wr=>∃ k:Nat,k≤s∧v=.int .i64 k∧Hid (Grow w wr∧wr.ownsRow w.heap.size 5 1 (.slice (some ⟨w.heap.size,0,none⟩) s s) s (u8s (putS x s k)))) (fun v _=>s-(intOf v).toNat)
 case atStart=>exact ⟨0,by omega,rfl,HS⟩
 case round =>
  clear HS
  obtain ⟨k,hk,rfl,HS⟩:=hrel
  by_cases hlt:k<s
  ·have hlt':(k:Int)<s:=by omega
   have hw:IntKind.i64.wrap ((k:Int)+1)=(k:Int)+1:=IntWalk.i64_in _ (by omega)
   have hst:=HS.out.2.stored k (.int .u8 (x/2 ^ (8*k)%256))
   rw [zeH,zBJ x s k hlt] at hst
   have hg3:=HS.out.1.setCell (p:=⟨w.heap.size,k,none⟩) (.inr (Nat.le_refl _)) (.int .u8 (x/2 ^ (8*k)%256))
   have HS2:=LH (And.intro hg3 hst.1)
   obtain ⟨c,hc⟩:∃ c,wr.cell? ⟨w.heap.size,k,none⟩=some c:=by
    obtain ⟨r,c2,e,_,_,hcs⟩:=zMA HS.out.2 (by omega)
    injection e with e1
    injection e1 with e1
    injection e1 with e1
    subst e1
    have:=hcs k ((u8s (putS x s k))[k]'(by simp [u8s,putS];omega)) (List.getElem?_eq_getElem _)
    exact ⟨_,by simpa using this⟩
   have hf:wr.frozen? ⟨w.heap.size,k,none⟩=false:=HS.out.2.frozenAt _
   clear hst hg3
   go_wp2
   go_roundw
   case rel=>exact ⟨k+1,by omega,by go_num,HS2.out.1,HS2.out.2⟩
   case measure=>simp [intOf];omega
  ·obtain rfl:k=s:=by omega
   have hlt':¬ ((k:Int)<k):=by omega
   go_wp2
   go_ret
   have ho:=HS.out.2
   rw [zCJ] at ho
   exact ⟨some ⟨w.heap.size,0,none⟩,k,by rw [zX];rfl,HS.out.1,by rw [zX];exact ho⟩
def Dec (D:Nat) (sv:Value) (paid:Int) (w:World):Prop:=w.heap[D]? = some (.cells #[sv,.int .i64 paid] 342 (0,0))
theorem Dec.lt {D:Nat} {sv:Value} {paid:Int} {w:World} (h:Dec D sv paid w):D<w.heap.size:=(gE h).1
theorem Dec.grow {D:Nat} {sv:Value} {paid:Int} {w w':World} (h:Dec D sv paid w) (hg:Grow w w'):Dec D sv paid w':=hg.heap h
theorem Dec.c0 {D:Nat} {sv:Value} {paid:Int} {w:World} (h:Dec D sv paid w):w.cell? ⟨D,0,none⟩=some sv:=World.news_of_block h 0 _ rfl
theorem Dec.c1 {D:Nat} {sv:Value} {paid:Int} {w:World} (h:Dec D sv paid w):w.cell? ⟨D,1,none⟩=some (.int .i64 paid):=World.news_of_block h 1 _ rfl
def wordsP (wd:Int→Int→Int×Int) (seg at_:Int) (n:Nat):List Int:=(List.range n).map (fun (i:Nat)=>(wd seg (at_+i)).1)
theorem zm (wd:Int→Int→Int×Int) (seg at_:Int) (n:Nat):(wordsP wd seg at_ n).length=n:=by simp [wordsP]
theorem zcD (wd:Int→Int→Int×Int) (seg at_:Int) (n:Nat):u64s (wordsP wd seg at_ (n+1))=u64s (wordsP wd seg at_ n)++[.int .u64 (wd seg (at_+n)).1]:=by
 simp [wordsP,u64s,List.range_succ]
theorem zoC {D:Nat} {sv:Value} {sz:List Int} {wd:Int→Int→Int×Int} {paid:Int} {w:World} (hD:Dec D sv paid w) (h:Sou sv sz wd w) (seg at_:Int) (n:Nat) (h0:0≤at_) (h1:at_+n≤10000000) :
    Calls Tryz.prog 266 #[.pointer (some ⟨D,0,none⟩),.int .i64 seg,.int .i64 at_,.int .i64 n] w fun e w'=>∃ A c,e=.returned (.slice A n c)∧Grow w w'∧w'.ownsRow w.heap.size 22 1 (.slice A n c) n (u64s (wordsP wd seg at_ n)):=by
 obtain ⟨T,pv,fw,fs,r,rfl,h2,h3,k1,k2,h4,h5⟩:=h.out
 have HD:=LH hD
 have H4:=LH h4
 clear h hD h3 k2 h4 h5
 have hlo:at_≤10000000:=by omega
 have hnn:n≤10000000:=by omega
 go_enter Tryz.func266,Tryz.ntmps266
 go_wp2
 go_loopw [9,14] (fun vo v wr=>∃ k:Nat,k≤n∧v=.int .i64 k∧∃ A4 c4,vo=.slice A4 k c4∧Hid (Grow w wr∧wr.ownsRow w.heap.size 22 1 (.slice A4 k c4) k (u64s (wordsP wd seg at_ k)))) (fun _ v _=>n-(intOf v).toNat)
 case atStart=>exact ⟨0,by omega,rfl,none,0,rfl,Keep.refl _ _,by simpa [u64s,wordsP] using World.ownsRow_nil w w.heap.size 22 1⟩
 case round =>
  obtain ⟨k,hk,rfl,A4,c4,rfl,HS⟩:=hrel
  by_cases hlt:k<n
  ·have hw:IntKind.i64.wrap ((k:Int)+1)=(k:Int)+1:=IntWalk.i64_in _ (by omega)
   have hlt':(k:Int)<n:=by omega
   have hc0:=(HD.out.grow HS.out.1).c0
   go_wp2_with fail
   refine (H4.out _ HS.out.1 seg (at_+k)).mono ?_
   rintro e w2 ⟨rfl,hg⟩
   have HS2:Hid (Grow w w2∧w2.ownsRow w.heap.size 22 1 (.slice A4 k c4) k (u64s (wordsP wd seg at_ k))):=⟨HS.out.1.grow hg,zF HS.out.2 hg (fun _ _ h=>h)⟩
   have E1:=LH (zcD wd seg at_ k)
   clear hg hc0
   go_wp2_with (at_builtin;refine zL _ rfl _ _ 111 111 rfl w.heap.size 22 (.int .u64 0) 1 8 zCA zj rfl (.slice A4 k c4) k (u64s (wordsP wd seg at_ k)) rfl (.slice (some ⟨w2.heap.size,0,none⟩) 1 1) 1 [.int .u64 (wd seg (at_+k)).1] rfl ?_ (by exact zF HS2.out.2 ((Keep.refl NoB w2).alloc _) (fun _ _ h=>h)) (by exact Src.ofSlice _ zCA ⟨w2.heap.size,0,none⟩ 1 1 _ rfl (World.news_of_block (cs:=#[.int .u64 (wd seg (at_+k)).1]) (t:=22) (fr:=(0,0)) (heap_alloc_new w2 _)) (by simp [Value.oneCell'])) (by simp only [maxLen];omega) (by omega) (by have:=HS2.out.1.size;simp;omega);intro v3 w3 hap;refine Hid.out ?_)
   refine LH ?_
   have Hg3:Hid (Grow w w3):=((((HS2.out.1.mono (T:=fun k=>w.heap.size≤k) (fun _ h=>h.elim)).alloc _).grown hap.grew (fun k hk=>.inl (HS2.out.2.lt k hk).1))).new (fun _ h=>h)
   have Ho3:=LH hap.own
   obtain ⟨A6,c6,rfl,_⟩:=zK hap.own
   clear hap
   rw [← E1.out] at Ho3
   go_wp2
   go_roundw
   case rel=>exact ⟨k+1,by omega,by go_num,A6,c6,rfl,Hg3.out,Ho3.out⟩
   case measure=>simp [intOf];omega
  ·obtain rfl:k=n:=by omega
   have hlt':¬ ((k:Int)<k):=by omega
   go_wp2
   go_ret
   exact ⟨A4,c4,rfl,HS.out.1,HS.out.2⟩
theorem zfF {base e size n c:Nat} {A:Option Addr} {xs:List Value} {w:World} (h:w.ownsRow base e size (.slice A n c) n xs) (m:Nat) (hm:m≤n):w.ownsRow base e size (.slice A m c) m (xs.take (m*size)):=by
 have hle:m*size≤n*size:=Nat.mul_le_mul_right _ hm
 obtain ⟨h1,h2⟩:=h
 refine ⟨by rw [List.length_take,h1];omega,?_⟩
 rcases h2 with ⟨h2,h3⟩ | ⟨g,cap,cur,hv,hb,hg,hn,hmx,hs,ht⟩
 ·injection h2 with e1 e2 e3
  subst e1
  subst e3
  left
  obtain rfl:m=0:=by omega
  exact ⟨rfl,by simp⟩
 ·injection hv with hv1 hv2 hv3
  subst hv3
  refine .inr ⟨g,c,cur,by rw [hv1],hb,hg,by omega,hmx,hs,?_⟩
  rw [← ht,List.take_take]
  congr 1
  omega
def bytesQ (wd:Int→Int→Int×Int) (seg at_:Int) (m:Nat):List Int:=(wordsP wd seg at_ m).flatMap (fun x=>putB x 8)
def bytesP (wd:Int→Int→Int×Int) (seg at_:Int) (n:Nat):List Int:=(bytesQ wd seg at_ ((n+7)/8)).take n
theorem zFB (wd:Int→Int→Int×Int) (seg at_:Int) (m:Nat):(bytesQ wd seg at_ m).length=m*8:=by
 induction m with
 | zero=>simp [bytesQ,wordsP]
 | succ m ih =>
  have:bytesQ wd seg at_ (m+1)=bytesQ wd seg at_ m++putB (wd seg (at_+m)).1 8:=by simp [bytesQ,wordsP,List.range_succ]
  rw [this,List.length_append,ih,zX]
  omega
theorem zrG (wd:Int→Int→Int×Int) (seg at_:Int) (m:Nat):u8s (bytesQ wd seg at_ (m+1))=u8s (bytesQ wd seg at_ m)++u8s (putB (wd seg (at_+m)).1 8):=by
 simp [bytesQ,wordsP,List.range_succ,u8s]
theorem zGA (wd:Int→Int→Int×Int) (seg at_:Int) (n:Nat):(bytesP wd seg at_ n).length=n:=by
 unfold bytesP
 rw [List.length_take,zFB]
 omega
theorem zBC (n:Nat) (w:World) (h:n≤10000000):Calls Tryz.prog 140 #[.int .i64 n,.int .i64 8] w fun e w'=>e=.returned (.int .i64 ((n+7)/8:Nat))∧w=w':=by
 refine (zwD n 8 w (by omega) (by omega) (by omega) (by omega)).mono ?_
 rintro e w' ⟨rfl,rfl⟩
 exact ⟨by congr 2;omega,rfl⟩
theorem ztA {base b2 e size n:Nat} {v:Value} {xs:List Value} {w:World} (h:w.ownsRow base e size v n xs) (hb:b2≤base):w.ownsRow b2 e size v n xs:=by
 refine ⟨h.1,?_⟩
 rcases h.2 with h2 | ⟨g,cap,cur,rfl,hg,r⟩
 ·exact .inl h2
 ·exact .inr ⟨g,cap,cur,rfl,Nat.le_trans hb hg,r⟩
theorem zgF {D:Nat} {sv:Value} {sz:List Int} {wd:Int→Int→Int×Int} {paid:Int} {w:World} (hD:Dec D sv paid w) (h:Sou sv sz wd w) (hv:∀ seg at_,0≤(wd seg at_).1∧(wd seg at_).1≤18446744073709551615) (seg at_:Int) (n:Nat) (h0:0≤at_) (h1:at_≤1000000) (hn:n≤1000000) :
    Calls Tryz.prog 267 #[.pointer (some ⟨D,0,none⟩),.int .i64 seg,.int .i64 at_,.int .i64 n] w fun e w'=>∃ A c,e=.returned (.slice A n c)∧Grow w w'∧w'.ownsRow w.heap.size 5 1 (.slice A n c) n (u8s (bytesP wd seg at_ n)):=by
 have HD:=LH hD
 have HS:=LH h
 have HV:=LH hv
 clear h hD hv
 have hm7:n≤(n+7)/8*8:=by omega
 have hmb:(n+7)/8≤1000000:=by omega
 have hC:=zBC n w (by omega)
 have hBP:bytesP wd seg at_ n=(bytesQ wd seg at_ ((n+7)/8)).take n:=rfl
 generalize (n+7)/8=m at hm7 hmb hC hBP
 have HC:=LH hC
 have HBP:=LH hBP
 clear hC hBP
 go_enter Tryz.func267,Tryz.ntmps267
 go_wp2_with fail
 refine HC.out.mono ?_
 rintro e w1 ⟨rfl,rfl⟩
 go_wp2_with fail
 refine (zoC HD.out HS.out seg at_ m h0 (by omega)).mono ?_
 rintro e w1 ⟨A1,c1,rfl,hg1,ho1⟩
 have Hg1:=LH hg1
 have Ho1:=LH ho1
 clear hg1 ho1
 go_wp2
 go_loopw [9,19] (fun vo v wr=>∃ k:Nat,k≤m∧v=.int .i64 k∧∃ A4 c4,vo=.slice A4 (k*8) c4∧Hid (Grow w1 wr∧wr.ownsRow w1.heap.size 5 1 (.slice A4 (k*8) c4) (k*8) (u8s (bytesQ wd seg at_ k)))) (fun _ v _=>m-(intOf v).toNat)
 case atStart=>exact ⟨0,by omega,rfl,none,0,by simp,Keep.refl _ _,by simpa [u8s,bytesQ,wordsP] using World.ownsRow_nil w1 w1.heap.size 5 1⟩
 case round =>
  obtain ⟨k,hk,rfl,A4,c4,rfl,HL⟩:=hrel
  by_cases hlt:k<m
  ·have hw:IntKind.i64.wrap ((k:Int)+1)=(k:Int)+1:=IntWalk.i64_in _ (by omega)
   have hlt':(k:Int)<m:=by omega
   obtain ⟨ad,rfl,q1⟩:=SliceR.at1 ((SliceR.of_own Ho1.out).grow HL.out.1) k (by simpa [u64s,wordsP] using hlt)
   have e1:(u64s (wordsP wd seg at_ m))[k]'(by simpa [u64s,wordsP] using hlt)=.int .u64 (wd seg (at_+k)).1:=by simp [u64s,wordsP]
   rw [e1] at q1
   have hval:=HV.out seg (at_+k)
   have Hsu:=LH (zrG wd seg at_ k)
   clear e1
   go_wp2_with fail
   refine (zLB (wd seg (at_+k)).1 8 wr hval.1 hval.2 (by omega) (by omega)).mono ?_
   rintro e w2 ⟨A5,c5,rfl,hg,ho⟩
   have hpl:=zX (wd seg (at_+k)).1 8
   rw [hpl] at ho ⊢
   have HL2:Hid (Grow w1 w2∧w2.ownsRow w1.heap.size 5 1 (.slice A4 (k*8) c4) (k*8) (u8s (bytesQ wd seg at_ k))):=⟨HL.out.1.grow hg,zF HL.out.2 hg (fun _ _ h=>h)⟩
   have Hsrc:=LH ((SliceR.of_own ho).src zW (zJB _))
   clear hg ho hpl q1 hval
   go_wp2_with (at_builtin;refine zL _ rfl _ _ 23 23 rfl w1.heap.size 5 (.int .u8 0) 1 1 zW zz rfl (.slice A4 (k*8) c4) (k*8) (u8s (bytesQ wd seg at_ k)) rfl (.slice A5 8 c5) 8 (u8s (putB (wd seg (at_+k)).1 8)) rfl ?_ (by exact HL2.out.2) (by exact Hsrc.out) (by simp only [maxLen];omega) (by omega) (by exact HL2.out.1.size);intro v3 w3 hap;refine Hid.out ?_)
   refine LH ?_
   have Hg3:Hid (Grow w1 w3):=(((HL2.out.1.mono (T:=fun k=>w1.heap.size≤k) (fun _ h=>h.elim)).grown hap.grew (fun k hk=>.inl (HL2.out.2.lt k hk).1))).new (fun _ h=>h)
   have ho3:=hap.own
   rw [← Hsu.out,show k*8+8=(k+1)*8 from by omega] at ho3
   have Ho3:=LH ho3
   obtain ⟨A6,c6,rfl,_⟩:=zK ho3
   clear hap ho3
   go_wp2
   go_roundw
   case rel=>exact ⟨k+1,by omega,by go_num,A6,c6,rfl,Hg3.out,Ho3.out⟩
   case measure=>simp [intOf];omega
  ·obtain rfl:k=m:=by omega
   have hlt':¬ ((k:Int)<k):=by omega
   have hnk:(n:Int)≤(k*8:Nat):=by omega
   obtain ⟨A7,c7,e7,hnc,_,hnil⟩:=zK HL.out.2
   injection e7 with e7a e7b e7c
   subst e7a
   subst e7c
   have hnc':(n:Int)≤c4:=by omega
   go_wp2
   go_ret
   have ho:=zfF HL.out.2 n hm7
   rw [Nat.mul_one,show (u8s (bytesQ wd seg at_ k)).take n=u8s (bytesP wd seg at_ n) from by rw [HBP.out];simp [u8s,List.map_take]] at ho
   exact ⟨A4,c4,rfl,Hg1.out.grow HL.out.1,ztA ho Hg1.out.size⟩
def ownB (kind size:Int) (nw nb nk:Nat):Bool :=
 if kind=0 then size==0&&nw+nb+nk==0
 else if kind=1 then size==0&&nb==0&&decide (max nw nk≤100)
 else if kind=2 then
  if size=2 then nw+nk==0&&decide (nb≤4096)
  else if size=5 then nb+nk==0&&decide (nw≤4096)
  else if size=6 then nb+nw==0&&decide (nk≤4096)
  else false
 else false
theorem zoE (kind size:Int) (A1 A2 A3:Option Addr) (nw nb nk c1 c2 c3:Nat) (w:World) (h1:nw≤10000000) (h2:nb≤10000000) (h3:nk≤10000000) :
    Calls Tryz.prog 268 #[.agg #[.int .i64 kind,.int .i64 size,.slice A1 nw c1,.slice A2 nb c2,.slice A3 nk c3]] w fun e w'=>e=.returned (.bool (ownB kind size nw nb nk))∧Grow w w':=by
 have hd:=heap_alloc_new w (.cells #[.int .i64 kind,.int .i64 size,.slice A1 nw c1,.slice A2 nb c2,.slice A3 nk c3] 114)
 have Hg:=LH (fun (cs:Array Value)=>((Keep.refl NoB w).alloc (.cells cs 114)).drew)
 obtain ⟨x0,x1,x2,x3,x4,xf⟩:=zA (w:=(w.alloc (.cells #[.int .i64 kind,.int .i64 size,.slice A1 nw c1,.slice A2 nb c2,.slice A3 nk c3] 114)).drew) hd
 clear hd
 by_cases k0:kind=0
 ·subst k0
  by_cases s0:size=0
  ·subst s0
   go_enter Tryz.func268,Tryz.ntmps268
   go_wp2
   refine zE [0,1,2,3,4,5,6,7,8,9,10,11] [9,10,11] [1,4,7] [] rfl (by kernel_rfl) ?_
   refine ord_p ?_
   refine oc1 x2 ?_
   iterate 2
    refine ord_p ?_
   refine oc1 x3 ?_
   iterate 2
    refine ord_p ?_
   refine oc1 x4 ?_
   refine ord_p ?_
   iterate 3
    refine ord_s ?_
   refine zD ?_
   go_wp2
   all_goals
    go_ret
    refine ⟨?_,Hg.out _⟩
    show Ending.returned (Value.bool _)=Ending.returned (Value.bool _)
    congr 2
    simp [ownB]
    all_goals first | (rw [Bool.eq_iff_iff];simp;omega) | (intros;omega)
  ·have sb:(size==0)=false:=by simp [s0]
   go_enter Tryz.func268,Tryz.ntmps268
   go_wp2
   refine zE [0,1,2,3,4,5,6,7,8,9,10,11] [9,10,11] [1,4,7] [] rfl (by kernel_rfl) ?_
   refine ord_p ?_
   refine oc1 x2 ?_
   iterate 2
    refine ord_p ?_
   refine oc1 x3 ?_
   iterate 2
    refine ord_p ?_
   refine oc1 x4 ?_
   refine ord_p ?_
   iterate 3
    refine ord_s ?_
   refine zD ?_
   go_wp2
   all_goals
    go_ret
    refine ⟨?_,Hg.out _⟩
    show Ending.returned (Value.bool _)=Ending.returned (Value.bool _)
    congr 2
    simp [ownB,s0]
    all_goals first | (rw [Bool.eq_iff_iff];simp;omega) | (intros;omega)
 have kb0:(kind==0)=false:=by simp [k0]
 by_cases k1:kind=1
 ·subst k1
  clear k0 kb0
  by_cases s0:size=0
  ·subst s0
   rcases Nat.lt_trichotomy nw nk with hl | rfl | hl
   all_goals
    go_enter Tryz.func268,Tryz.ntmps268
    go_wp2
    refine zE [0,1,2,3,4,5,6,7,8,9,10,11] [9,10,11] [1,4,7] [] rfl (by kernel_rfl) ?_
    refine ord_p ?_
    refine oc1 x2 ?_
    iterate 2
     refine ord_p ?_
    refine oc1 x3 ?_
    iterate 2
     refine ord_p ?_
    refine oc1 x4 ?_
    refine ord_p ?_
    iterate 3
     refine ord_s ?_
    refine zD ?_
    go_wp2
    all_goals
     go_ret
     refine ⟨?_,Hg.out _⟩
     show Ending.returned (Value.bool _)=Ending.returned (Value.bool _)
     congr 2
     simp [ownB]
     all_goals first | (rw [Bool.eq_iff_iff];simp;omega) | (intros;omega)
  ·have sb:(size==0)=false:=by simp [s0]
   go_enter Tryz.func268,Tryz.ntmps268
   go_wp2
   refine zE [0,1,2,3,4,5,6,7,8,9,10,11] [9,10,11] [1,4,7] [] rfl (by kernel_rfl) ?_
   refine ord_p ?_
   refine oc1 x2 ?_
   iterate 2
    refine ord_p ?_
   refine oc1 x3 ?_
   iterate 2
    refine ord_p ?_
   refine oc1 x4 ?_
   refine ord_p ?_
   iterate 3
    refine ord_s ?_
   refine zD ?_
   go_wp2
   all_goals
    go_ret
    refine ⟨?_,Hg.out _⟩
    show Ending.returned (Value.bool _)=Ending.returned (Value.bool _)
    congr 2
    simp [ownB,s0]
    all_goals first | (rw [Bool.eq_iff_iff];simp;omega) | (intros;omega)
 have kb1:(kind==1)=false:=by simp [k1]
 by_cases k2:kind=2
 ·subst k2
  clear k0 kb0 k1 kb1
  by_cases s2:size=2
  ·subst s2
   go_enter Tryz.func268,Tryz.ntmps268
   go_wp2
   refine zE [0,1,2,3,4,5,6,7,8,9,10,11] [9,10,11] [1,4,7] [] rfl (by kernel_rfl) ?_
   refine ord_p ?_
   refine oc1 x2 ?_
   iterate 2
    refine ord_p ?_
   refine oc1 x3 ?_
   iterate 2
    refine ord_p ?_
   refine oc1 x4 ?_
   refine ord_p ?_
   iterate 3
    refine ord_s ?_
   refine zD ?_
   go_wp2
   all_goals
    go_ret
    refine ⟨?_,Hg.out _⟩
    show Ending.returned (Value.bool _)=Ending.returned (Value.bool _)
    congr 2
    simp [ownB]
    all_goals first | (rw [Bool.eq_iff_iff];simp;omega) | (intros;omega)
  have sb2:(size==2)=false:=by simp [s2]
  by_cases s5:size=5
  ·subst s5
   clear s2 sb2
   go_enter Tryz.func268,Tryz.ntmps268
   go_wp2
   refine zE [0,1,2,3,4,5,6,7,8,9,10,11] [9,10,11] [1,4,7] [] rfl (by kernel_rfl) ?_
   refine ord_p ?_
   refine oc1 x2 ?_
   iterate 2
    refine ord_p ?_
   refine oc1 x3 ?_
   iterate 2
    refine ord_p ?_
   refine oc1 x4 ?_
   refine ord_p ?_
   iterate 3
    refine ord_s ?_
   refine zD ?_
   go_wp2
   all_goals
    go_ret
    refine ⟨?_,Hg.out _⟩
    show Ending.returned (Value.bool _)=Ending.returned (Value.bool _)
    congr 2
    simp [ownB]
    all_goals first | (rw [Bool.eq_iff_iff];simp;omega) | (intros;omega)
  have sb5:(size==5)=false:=by simp [s5]
  by_cases s6:size=6
  ·subst s6
   clear s2 sb2 s5 sb5
   go_enter Tryz.func268,Tryz.ntmps268
   go_wp2
   refine zE [0,1,2,3,4,5,6,7,8,9,10,11] [9,10,11] [1,4,7] [] rfl (by kernel_rfl) ?_
   refine ord_p ?_
   refine oc1 x2 ?_
   iterate 2
    refine ord_p ?_
   refine oc1 x3 ?_
   iterate 2
    refine ord_p ?_
   refine oc1 x4 ?_
   refine ord_p ?_
   iterate 3
    refine ord_s ?_
   refine zD ?_
   go_wp2
   all_goals
    go_ret
    refine ⟨?_,Hg.out _⟩
    show Ending.returned (Value.bool _)=Ending.returned (Value.bool _)
    congr 2
    simp [ownB]
    all_goals first | (rw [Bool.eq_iff_iff];simp;omega) | (intros;omega)
  have sb6:(size==6)=false:=by simp [s6]
  go_enter Tryz.func268,Tryz.ntmps268
  go_wp2
  refine zE [0,1,2,3,4,5,6,7,8,9,10,11] [9,10,11] [1,4,7] [] rfl (by kernel_rfl) ?_
  refine ord_p ?_
  refine oc1 x2 ?_
  iterate 2
   refine ord_p ?_
  refine oc1 x3 ?_
  iterate 2
   refine ord_p ?_
  refine oc1 x4 ?_
  refine ord_p ?_
  iterate 3
   refine ord_s ?_
  refine zD ?_
  go_wp2
  all_goals
   go_ret
   refine ⟨?_,Hg.out _⟩
   show Ending.returned (Value.bool _)=Ending.returned (Value.bool _)
   congr 2
   simp [ownB,s2,s5,s6]
   all_goals first | (rw [Bool.eq_iff_iff];simp;omega) | (intros;omega)
 have kb2:(kind==2)=false:=by simp [k2]
 go_enter Tryz.func268,Tryz.ntmps268
 go_wp2
 refine zE [0,1,2,3,4,5,6,7,8,9,10,11] [9,10,11] [1,4,7] [] rfl (by kernel_rfl) ?_
 refine ord_p ?_
 refine oc1 x2 ?_
 iterate 2
  refine ord_p ?_
 refine oc1 x3 ?_
 iterate 2
  refine ord_p ?_
 refine oc1 x4 ?_
 refine ord_p ?_
 iterate 3
  refine ord_s ?_
 refine zD ?_
 go_wp2
 all_goals
  go_ret
  refine ⟨?_,Hg.out _⟩
  show Ending.returned (Value.bool _)=Ending.returned (Value.bool _)
  congr 2
  simp [ownB,k0,k1,k2]
  all_goals first | (rw [Bool.eq_iff_iff];simp;omega) | (intros;omega)
inductive Tr where
 | mk (kind size:Int) (ws bs:List Int) (kids:List Tr):Tr
def Tr.kind:Tr→Int | .mk k _ _ _ _=>k
def Tr.size:Tr→Int | .mk _ s _ _ _=>s
def Tr.ws:Tr→List Int | .mk _ _ w _ _=>w
def Tr.bs:Tr→List Int | .mk _ _ _ b _=>b
def Tr.kids:Tr→List Tr | .mk _ _ _ _ k=>k
def tr0:Tr:=.mk 0 0 [] [] []
def kcs (rows:List (Tr×Value×Value×Value)):List Value:=rows.flatMap (fun r=>[.int .i64 r.1.kind,.int .i64 r.1.size,r.2.1,r.2.2.1,r.2.2.2])
theorem zPC (a b:List (Tr×Value×Value×Value)):kcs (a++b)=kcs a++kcs b:=by simp [kcs]
theorem zfH:∀ (l:List (Tr×Value×Value×Value)) (i:Nat) (h:i<l.length),(kcs l)[i*5]? = some (.int .i64 l[i].1.kind)∧(kcs l)[i*5+1]? = some (.int .i64 l[i].1.size)∧(kcs l)[i*5+2]? = some l[i].2.1∧(kcs l)[i*5+3]? = some l[i].2.2.1∧(kcs l)[i*5+4]? = some l[i].2.2.2
 | [],i,h=>by simp at h
 | x :: r,0,h=>by simp [kcs]
 | x :: r, i + 1, h => by
  obtain ⟨h0,h1,h2,h3,h4⟩:=zfH r i (by simpa using h)
  have e:kcs (x :: r)=[.int .i64 x.1.kind,.int .i64 x.1.size,x.2.1,x.2.2.1,x.2.2.2]++kcs r:=by simp [kcs]
  have s:∀ k,(kcs (x :: r))[(i+1)*5+k]? = (kcs r)[i*5+k]? := fun k=>by
   rw [e,List.getElem?_append_right (by simp;omega)]
   congr 1
   simp;omega
  exact ⟨by simpa using (s 0).trans h0,by simpa using (s 1).trans h1,by simpa using (s 2).trans h2,by simpa using (s 3).trans h3,by simpa using (s 4).trans h4⟩
inductive TrR (w:World):Tr→Value→Value→Value→Prop where
 | mk {k s:Int} {ws bs:List Int} {vw vb vk:Value} (rows:List (Tr×Value×Value×Value)) (hW:SliceR 1 vw ws.length (u64s ws) w) (hB:SliceR 1 vb bs.length (u8s bs) w)
     (hR:SliceR 5 vk rows.length (kcs rows) w) (hr:∀ r,r∈rows→TrR w r.1 r.2.1 r.2.2.1 r.2.2.2):TrR w (.mk k s ws bs (rows.map (·.1))) vw vb vk
theorem TrR.grow {w w':World} (hg:Grow w w') {t:Tr} {vw vb vk:Value} (h:TrR w t vw vb vk):TrR w' t vw vb vk:=by
 induction h with
 | mk rows hW hB hR hr ih=>exact .mk rows (hW.grow hg) (hB.grow hg) (hR.grow hg) ih
theorem zZ (size:Nat) (w:World):SliceR size (.slice none 0 0) 0 [] w:=⟨none,0,rfl,Nat.le_refl _,by simp,by simp,fun j u h=>by simp at h⟩
theorem TrR.nil (w:World) (k s:Int):TrR w (.mk k s [] [] []) (.slice none 0 0) (.slice none 0 0) (.slice none 0 0) :=
 .mk (rows:=[]) (zZ _ w) (zZ _ w) (zZ _ w) (fun r h=>by cases h)
inductive TrB:Tr→Prop where
 | mk {k s:Int} {ws bs:List Int} {kids:List Tr} (hw:ws.length≤10000000) (hb:bs.length≤10000000) (hk:kids.length≤10000000) (hr:∀ t,t∈kids→TrB t):TrB (.mk k s ws bs kids)
theorem TrB.w {t:Tr} (h:TrB t):t.ws.length≤10000000:=by cases h;assumption
theorem TrB.b {t:Tr} (h:TrB t):t.bs.length≤10000000:=by cases h;assumption
theorem TrB.k {t:Tr} (h:TrB t):t.kids.length≤10000000:=by cases h;assumption
theorem TrB.r {t:Tr} (h:TrB t):∀ u,u∈t.kids→TrB u:=by cases h;assumption
def ownT (t:Tr):Bool:=ownB t.kind t.size t.ws.length t.bs.length t.kids.length
def rightB:Nat→Tr→Bool
 | 0,t=>ownT t&&t.kind==0
 | l+1,t=>ownT t&&t.kids.all (rightB l)
theorem zhF {t:Tr} (h:ownT t=true) (hk:t.kind=0):t.kids=[]:=by
 unfold ownT ownB at h
 rw [if_pos hk] at h
 simp only [Bool.and_eq_true,beq_iff_eq] at h
 exact List.length_eq_zero_iff.1 (by omega)
theorem TrR.parts {w:World} {t:Tr} {vw vb vk:Value} (h:TrR w t vw vb vk):∃ A1 c1 A2 c2 A3 c3,vw=.slice A1 t.ws.length c1∧vb=.slice A2 t.bs.length c2∧vk=.slice A3 t.kids.length c3:=by
 cases h with
 | mk rows hW hB hR hr =>
  obtain ⟨A1,c1,rfl⟩:=hW.cut
  obtain ⟨A2,c2,rfl⟩:=hB.cut
  obtain ⟨A3,c3,rfl⟩:=hR.cut
  exact ⟨A1,c1,A2,c2,A3,c3,rfl,rfl,by simp [Tr.kids]⟩
theorem zSK (a:Addr) (m k:Nat):(a.add m).add (k+1)=⟨(a.add m).block,(a.add m).off+(k+1),none⟩:=by
 generalize a.add m=b
 simp [Addr.add]
def RightAt (l : Nat) : Prop := ∀ (t : Tr) (vw vb vk : Value) (w : World), TrR w t vw vb vk → TrB t →
    Calls Tryz.prog 245 #[.agg #[t.kind,t.size,vw,vb,vk],.int .i64 l] w fun e w'=>e=.returned (.bool (rightB l t))∧Grow w w'
theorem ziF {l:Nat} (ih:RightAt l) (t:Tr) (vw vb vk:Value) (w:World) (h:TrR w t vw vb vk) (hb:TrB t) (hl:l≤1000) (G:Nat) (hG:w.heap[G]? = some (.cells #[.int .i64 ((l:Int)+1)] 3 (0,0))) :
    Calls Tryz.prog 270 #[.agg #[t.kind,t.size,vw,vb,vk],.pointer (some ⟨G,0,none⟩)] w fun e w'=>e=.returned (.bool (!rightB l t))∧Grow w w':=by
 obtain ⟨A1,c1,A2,c2,A3,c3,rfl,rfl,rfl⟩:=h.parts
 have hg1:=(Keep.refl NoB w).alloc (.cells #[t.kind,t.size,.slice A1 t.ws.length c1,.slice A2 t.bs.length c2,.slice A3 t.kids.length c3] 114)
 have HT:=LH (h.grow hg1)
 have HB:=LH hb
 have l0:=cell0 (Grow.heap hg1 hG)
 have HG:=LH hg1
 have hw:IntKind.i64.wrap ((l:Int)+1-1)=l:=by rw [show (l:Int)+1-1=l from by omega];exact IntWalk.i64_in _ (by omega)
 clear h hb hG hg1
 go_enter Tryz.func270,Tryz.ntmps270
 go_wp2_with fail
 refine (ih t _ _ _ _ HT.out HB.out).mono ?_
 rintro e w1 ⟨rfl,hg⟩
 have HG2:=LH (HG.out.grow hg)
 clear hg
 go_wp2
 go_ret
 exact ⟨rfl,HG2.out⟩
theorem zuA {rows:List (Tr×Value×Value×Value)} {A:Option Addr} {n c:Nat} {w:World} (h:SliceR 5 (.slice A n c) rows.length (kcs rows) w) (i:Nat) (hi:i<rows.length):∃ ad,A=some ad ∧
    w.cell? (ad.add (i*5))=some (.int .i64 rows[i].1.kind)∧w.cell? ⟨(ad.add (i*5)).block,(ad.add (i*5)).off+1,none⟩=some (.int .i64 rows[i].1.size)∧w.cell? ⟨(ad.add (i*5)).block,(ad.add (i*5)).off+2,none⟩=some rows[i].2.1 ∧
    w.cell? ⟨(ad.add (i*5)).block,(ad.add (i*5)).off+3,none⟩=some rows[i].2.2.1∧w.cell? ⟨(ad.add (i*5)).block,(ad.add (i*5)).off+4,none⟩=some rows[i].2.2.2:=by
 obtain ⟨A',c',e,h1,h2,h3,h4⟩:=h
 injection e with e1 e2 e3
 subst e1
 obtain ⟨k0,k1,k2,k3,k4⟩:=zfH rows i hi
 obtain ⟨ad,ea,q0⟩:=h4 _ _ k0
 have off:∀ k,ad.add (i*5+(k+1))=⟨(ad.add (i*5)).block,(ad.add (i*5)).off+(k+1),none⟩:=fun k=>by
  rw [← zSK]
  simp [Addr.add_add]
 have g:∀ k u,(kcs rows)[i*5+(k+1)]? = some u→w.cell? ⟨(ad.add (i*5)).block,(ad.add (i*5)).off+(k+1),none⟩=some u:=fun k u hu=>by
  obtain ⟨ad2,eb,q⟩:=h4 _ _ hu
  rw [ea] at eb
  injection eb with eb
  subst eb
  rwa [off k] at q
 exact ⟨ad,ea,q0,g 0 _ k1,g 1 _ k2,g 2 _ k3,g 3 _ k4⟩
def BadPost (l:Nat) (kids:List Tr) (w:World) (e:Ending) (w':World):Prop:=∃ x:Int,e=.returned (.int .i64 x)∧decide (0≤x) = !kids.all (rightB l)∧Grow w w'
theorem zsG {l:Nat} (ih:RightAt l) (hl:l≤1000) (rows:List (Tr×Value×Value×Value)) (A:Option Addr) (c:Nat) (w:World) (h:SliceR 5 (.slice A rows.length c) rows.length (kcs rows) w) (hr:∀ r,r∈rows→TrR w r.1 r.2.1 r.2.2.1 r.2.2.2) (hb:∀ r,r∈rows→TrB r.1) (hn:rows.length≤10000000)
    (G:Nat) (hG:w.heap[G]? = some (.cells #[.int .i64 ((l:Int)+1)] 3 (0,0))) :
    Calls Tryz.prog 276 #[.slice A rows.length c,.func (Fn.func 270) #[] #[.pointer (some ⟨G,0,none⟩)]] w (BadPost l (rows.map (·.1)) w):=by
 have H:=LH h
 have HR:=LH hr
 have HB:=LH hb
 have HG:=LH hG
 clear h hr hb hG
 go_enter Tryz.func276,Tryz.ntmps276
 go_wp2
 go_loopw [8] (fun v wr=>∃ k:Nat,k≤rows.length∧v=.int .i64 k∧Hid (Grow w wr∧((rows.map (·.1)).take k).all (rightB l)=true)) (fun v _=>rows.length-(intOf v).toNat)
 case atStart=>exact ⟨0,by omega,rfl,Keep.refl _ _,by simp⟩
 case round =>
  obtain ⟨k,hk,rfl,HS⟩:=hrel
  by_cases hlt:k<rows.length
  ·have hlt':(k:Int)<rows.length:=by omega
   have hw:IntKind.i64.wrap ((k:Int)+1)=(k:Int)+1:=IntWalk.i64_in _ (by omega)
   obtain ⟨ad,rfl,q0,q1,q2,q3,q4⟩:=zuA (H.out.grow HS.out.1) k hlt
   have hT:=LH ((HR.out _ (List.getElem_mem hlt)).grow HS.out.1)
   have hTB:=LH (HB.out _ (List.getElem_mem hlt))
   obtain ⟨B1,d1,B2,d2,B3,d3,e1,e2,e3⟩:=hT.out.parts
   have hgk:=HS.out.1
   rw [e1] at q2
   rw [e2] at q3
   rw [e3] at q4
   have hR1:=ziF ih rows[k].1 _ _ _ wr hT.out hTB.out hl G (Grow.heap HS.out.1 HG.out)
   rw [e1,e2,e3] at hR1
   have HR1:=LH hR1
   have hget:((rows.map (·.1)).take (k+1)).all (rightB l)=(((rows.map (·.1)).take k).all (rightB l)&&rightB l rows[k].1):=by
    rw [List.take_succ_eq_append_getElem (by simpa using hlt),List.all_append]
    simp
   have Hget:=LH hget
   have Hmem:Hid (rightB l rows[k].1=false→(rows.map (·.1)).all (rightB l)=false):=LH (fun hf=>by
    rw [List.all_eq_false]
    exact ⟨rows[k].1,List.mem_map.2 ⟨_,List.getElem_mem hlt,rfl⟩,by simp [hf]⟩)
   clear hR1 hgk hget e1 e2 e3
   go_wp2_with fail
   refine HR1.out.mono ?_
   rintro e w2 ⟨rfl,hg⟩
   have HG2:=LH (HS.out.1.grow hg)
   clear hg
   cases hok:rightB l rows[k].1 with
   | false =>
    have Hall:=LH (Hmem.out hok)
    clear hok
    go_wp2
    go_ret
    exact ⟨k,rfl,by rw [Hall.out];simp,HG2.out⟩
   | true =>
    have Hall:Hid (((rows.map (·.1)).take (k+1)).all (rightB l)=true):=LH (by rw [Hget.out,HS.out.2,hok];rfl)
    clear hok
    go_wp2
    go_roundw
    case rel=>exact ⟨k+1,by omega,by go_num,HG2.out,Hall.out⟩
    case measure=>simp [intOf];omega
  ·obtain rfl:k=rows.length:=by omega
   have hlt':¬ ((rows.length:Int)<rows.length):=by omega
   have hall:=HS.out.2
   rw [List.take_of_length_le (by simp)] at hall
   have Hall:=LH hall
   clear hall
   go_wp2
   go_ret
   exact ⟨-1,rfl,by rw [Hall.out];rfl,HS.out.1⟩
theorem zWE {l:Nat} (ih:RightAt l) (hl:l≤1000) (rows:List (Tr×Value×Value×Value)) (A:Option Addr) (c:Nat) (w:World) (h:SliceR 5 (.slice A rows.length c) rows.length (kcs rows) w) (hr:∀ r,r∈rows→TrR w r.1 r.2.1 r.2.2.1 r.2.2.2) (hb:∀ r,r∈rows→TrB r.1) (hn:rows.length≤10000000)
    (G:Nat) (hG:w.heap[G]? = some (.cells #[.int .i64 ((l:Int)+1)] 3 (0,0))) :
    Calls Tryz.prog 269 #[.slice A rows.length c,.func (Fn.func 270) #[] #[.pointer (some ⟨G,0,none⟩)]] w fun e w'=>e=.returned (.bool (!(rows.map (·.1)).all (rightB l)))∧Grow w w':=by
 have HI:=LH (zsG ih hl rows A c w h hr hb hn G hG)
 clear h hr hb hn hG
 go_enter Tryz.func269,Tryz.ntmps269
 go_wp2_with fail
 refine HI.out.mono ?_
 rintro e w1 ⟨x,rfl,hx,hg⟩
 have Hx:=LH (And.intro hx hg)
 clear hx hg
 go_wp2
 go_ret
 exact ⟨by rw [← Hx.out.1];rfl,Hx.out.2⟩
theorem TrR.rows {w:World} {t:Tr} {vw vb vk:Value} (h:TrR w t vw vb vk):∃ rows,rows.map (·.1)=t.kids∧SliceR 5 vk rows.length (kcs rows) w∧∀ r,r∈rows→TrR w r.1 r.2.1 r.2.2.1 r.2.2.2:=by
 cases h with
 | mk rows hW hB hR hr=>exact ⟨rows,rfl,hR,hr⟩
theorem zjF (A:Option Addr) (n c:Nat) (hn:n=0) (fv:Value) (w:World):Calls Tryz.prog 269 #[.slice A n c,fv] w fun e w'=>e=.returned (.bool false)∧w=w':=by
 subst hn
 have hI:Calls Tryz.prog 276 #[.slice A 0 c,fv] w fun e w'=>e=.returned (.int .i64 (-1))∧w=w':=by
  go_enter Tryz.func276,Tryz.ntmps276
  go_wp2
  go_loopw [8] (fun v wr=>wr=w∧v=.int .i64 0) (fun v _=>0)
  case atStart=>exact ⟨rfl,rfl⟩
  case round =>
   obtain ⟨rfl,rfl⟩:=hrel
   go_wp2
   go_ret
   exact ⟨rfl,rfl⟩
 have HI:=LH hI
 clear hI
 go_enter Tryz.func269,Tryz.ntmps269
 go_wp2_with fail
 refine HI.out.mono ?_
 rintro e w' ⟨rfl,rfl⟩
 go_wp2
 go_ret
 exact ⟨rfl,rfl⟩
theorem zDI:RightAt 0:=by
 intro t vw vb vk w h hb
 obtain ⟨A1,c1,A2,c2,A3,c3,rfl,rfl,rfl⟩:=h.parts
 have bw:=hb.w
 have bb:=hb.b
 have bk:=hb.k
 have hd:=zU w (.cells #[t.kind,t.size,.slice A1 t.ws.length c1,.slice A2 t.bs.length c2,.slice A3 t.kids.length c3] 114) (.cells #[qJ] 3)
 have HN:=LH hd.1
 have HL:=LH hd.2.1
 have HG:=LH hd.2.2
 clear h hb hd
 go_enter Tryz.func245,Tryz.ntmps245
 go_wp2_with fail
 refine (zoE t.kind t.size A1 A2 A3 _ _ _ c1 c2 c3 _ bw bb bk).mono ?_
 rintro e w1 ⟨rfl,hg⟩
 replace HN:=LH (hg.heap HN.out)
 replace HL:=LH (hg.heap HL.out)
 replace HG:=LH (HG.out.grow hg)
 clear hg
 obtain ⟨n0,n1,n2,n3,n4,nf⟩:=zA HN.out
 have l0:=cell0 HL.out
 cases ho:ownB t.kind t.size t.ws.length t.bs.length t.kids.length with
 | false =>
  have E:Hid (rightB 0 t=false):=LH (by simp [rightB,ownT,ho])
  clear ho
  go_wp2
  go_ret
  exact ⟨by rw [E.out];rfl,HG.out⟩
 | true =>
  have E:Hid (rightB 0 t=(t.kind==0)):=LH (by simp [rightB,ownT,ho])
  by_cases hk:t.kind=0
  ·have E2:Hid (t.kids=[]):=LH (zhF ho hk)
   have E3:Hid (rightB 0 t=true):=LH (by rw [E.out];simp [hk])
   have kb:(t.kind != 0)=false:=by simp [hk]
   have hlen:t.kids.length=0:=by rw [E2.out];rfl
   have Hlen:=LH hlen
   clear ho hk hlen
   go_wp2_with fail
   refine (zjF A3 _ c3 Hlen.out _ w1).mono ?_
   rintro e w' ⟨rfl,rfl⟩
   go_wp2
   go_ret
   exact ⟨by rw [E3.out];rfl,HG.out⟩
  ·have E3:Hid (rightB 0 t=false):=LH (by rw [E.out];simp [hk])
   have kb:(t.kind != 0)=true:=by simp [hk]
   clear ho hk
   go_wp2
   go_ret
   exact ⟨by rw [E3.out];rfl,HG.out⟩
theorem zEI {l:Nat} (ih:RightAt l) (hl:l≤1000):RightAt (l+1):=by
 intro t vw vb vk w h hb
 obtain ⟨A1,c1,A2,c2,A3,c3,rfl,rfl,rfl⟩:=h.parts
 have bw:=hb.w
 have bb:=hb.b
 have bk:=hb.k
 have HT:=LH h
 have HB:=LH hb
 have hd:=zU w (.cells #[t.kind,t.size,.slice A1 t.ws.length c1,.slice A2 t.bs.length c2,.slice A3 t.kids.length c3] 114) (.cells #[.int .i64 ((l:Int)+1)] 3)
 have HN:=LH hd.1
 have HL:=LH hd.2.1
 have HG:=LH hd.2.2
 clear h hb hd
 go_enter Tryz.func245,Tryz.ntmps245
 go_wp2_with fail
 refine (zoE t.kind t.size A1 A2 A3 _ _ _ c1 c2 c3 _ bw bb bk).mono ?_
 rintro e w1 ⟨rfl,hg⟩
 replace HN:=LH (hg.heap HN.out)
 replace HL:=LH (hg.heap HL.out)
 replace HG:=LH (HG.out.grow hg)
 clear hg
 obtain ⟨n0,n1,n2,n3,n4,nf⟩:=zA HN.out
 have l0:=cell0 HL.out
 cases ho:ownB t.kind t.size t.ws.length t.bs.length t.kids.length with
 | false =>
  have E:Hid (rightB (l+1) t=false):=LH (by simp [rightB,ownT,ho])
  clear ho
  go_wp2
  go_ret
  exact ⟨by rw [E.out];rfl,HG.out⟩
 | true =>
  have E:Hid (rightB (l+1) t=t.kids.all (rightB l)):=LH (by simp [rightB,ownT,ho])
  have hl1:((l:Int)+1==0)=false:=beq_eq_false_iff_ne.2 (by omega)
  obtain ⟨rows,hrk,hrow,hrr⟩:=(HT.out.grow HG.out).rows
  have hlen:t.kids.length=rows.length:=by rw [← hrk,List.length_map]
  have hbr:∀ r,r∈rows→TrB r.1:=fun r hr=>HB.out.r _ (by rw [← hrk];exact List.mem_map_of_mem hr)
  have HC:=zWE ih hl rows A3 c3 w1 (by rw [← hlen];exact hlen ▸ hrow) hrr hbr (by omega) (w.heap.size+1) HL.out
  rw [hrk,← hlen] at HC
  have HCC:=LH HC
  clear ho hrk hrow hrr hlen hbr HC
  by_cases hk:t.kind=0
  ·have kb:(t.kind != 0)=false:=by simp [hk]
   clear hk
   go_wp2_with fail
   refine HCC.out.mono ?_
   rintro e w2 ⟨rfl,hg⟩
   have HG2:=LH (HG.out.grow hg)
   clear hg
   go_wp2
   go_ret
   exact ⟨by rw [E.out];simp,HG2.out⟩
  ·have kb:(t.kind != 0)=true:=by simp [hk]
   clear hk
   go_wp2_with fail
   refine HCC.out.mono ?_
   rintro e w2 ⟨rfl,hg⟩
   have HG2:=LH (HG.out.grow hg)
   clear hg
   go_wp2
   go_ret
   exact ⟨by rw [E.out];simp,HG2.out⟩
theorem zkF:∀ l:Nat,l≤1001→RightAt l
 | 0,_=>zDI
 | l+1,h=>zEI (zkF l (by omega)) (by omega)
theorem ztG (t:Tr) (vw vb vk:Value) (w:World) (h:TrR w t vw vb vk) (hb:TrB t) :
    Calls Tryz.prog 202 #[.agg #[t.kind,t.size,vw,vb,vk]] w fun e w'=>e=.returned (.bool (rightB 32 t))∧Grow w w':=by
 obtain ⟨A1,c1,A2,c2,A3,c3,rfl,rfl,rfl⟩:=h.parts
 have hg1:=(Keep.refl NoB w).alloc (.cells #[t.kind,t.size,.slice A1 t.ws.length c1,.slice A2 t.bs.length c2,.slice A3 t.kids.length c3] 114)
 have HG:=LH hg1
 have HR:=LH (zkF 32 (by omega) t _ _ _ _ (h.grow hg1) hb)
 clear h hb hg1
 go_enter Tryz.func202,Tryz.ntmps202
 go_wp2_with fail
 refine HR.out.mono ?_
 rintro e w1 ⟨rfl,hg⟩
 have HG2:=LH (HG.out.grow hg)
 clear hg
 go_wp2
 go_ret
 exact ⟨rfl,HG2.out⟩
structure Snd where
 session:Int
 sz:List Int
 sum:Nat
 ch:List (List Int)
 win:Int
 back:Int
 retry:Int
 quota:Int
 phase:Int
 err:Int
 acked:List Int
 tries:List Int
 tm:List KT
theorem Keep.setObj {S:Nat→Prop} {a b:World} (h:Keep S a b) {r:Nat} (hr:S r∨a.heap.size≤r) (o:Obj):Keep S a { b with heap:=b.heap.setIfInBounds r o } :=
 ⟨h.os,h.tape,h.output,by simpa using h.size,fun i hi hS=>by
  show (b.heap.setIfInBounds r o)[i]? = _
  rw [Array.getElem?_setIfInBounds_ne (by intro e;subst e;rcases hr with hr | hr;exact hS hr;omega)]
  exact h.block i hi hS⟩
def OneG (w:World) (b:Nat) (kind session index of:Int) (sum:Nat):Prop:=w.heap[b]? = some (.cells #[.int .i64 kind,.int .u64 session,.int .i64 index,.int .i64 of,.int .u32 (sum:Nat),qI,qI] 46 (0,0))
theorem zLA {w:World} {g T:Nat} {a0 a1 a2 a3:Value} (h:w.heap[g]? = some (.cells #[a0,a1,a2,a3] T (0,0))):w.cell? ⟨g,0,none⟩=some a0∧w.cell? ⟨g,1,none⟩=some a1∧w.cell? ⟨g,2,none⟩=some a2∧w.cell? ⟨g,3,none⟩=some a3∧∀ o,w.frozen? ⟨g,o,none⟩=false :=
 ⟨World.news_of_block h 0 _ rfl,World.news_of_block h 1 _ rfl,World.news_of_block h 2 _ rfl,World.news_of_block h 3 _ rfl,fun o=>zN o h⟩
theorem zaE {w0 w:World} {g T:Nat} {a0 a1 a2 a3:Value} (n0 n1 n2 n3:Value) (hg:Grow w0 w) (hge:w0.heap.size≤g) (h:w.heap[g]? = some (.cells #[a0,a1,a2,a3] T (0,0))) :
    ((((w.setCell ⟨g,0,none⟩ n0).setCell ⟨g,1,none⟩ n1).setCell ⟨g,2,none⟩ n2).setCell ⟨g,3,none⟩ n3).heap[g]? = some (.cells #[n0,n1,n2,n3] T (0,0))∧Grow w0 ((((w.setCell ⟨g,0,none⟩ n0).setCell ⟨g,1,none⟩ n1).setCell ⟨g,2,none⟩ n2).setCell ⟨g,3,none⟩ n3):=by
 refine ⟨?_,((((hg.setCell (p:=⟨g,0,none⟩) (.inr hge) _).setCell (p:=⟨g,1,none⟩) (.inr hge) _).setCell (p:=⟨g,2,none⟩) (.inr hge) _).setCell (p:=⟨g,3,none⟩) (.inr hge) _)⟩
 simp only [World.setCell,Array.getElem?_modify]
 simp [h]
theorem OkA.one:OkA [[0]]:=⟨by decide,by decide,by decide⟩
theorem OkA.nil:OkA []:=⟨by decide,by decide,by decide⟩
theorem ret_i {k:IntKind} {a b:Int} (h:a=b):Ending.returned (.int k a)=.returned (.int k b):=by rw [h]
theorem zlL {x:Int} (h:x<536870912):x=sg30 x:=by unfold sg30;rw [if_pos h]
theorem zmL {x:Int} (h:536870912≤x):x-536870912-536870912=sg30 x:=by unfold sg30;rw [if_neg (by omega)];omega
theorem zAE {k n:Nat} (h:k≤n):(1:Int)≤2 ^ k∧(2:Int) ^ k≤2 ^ n:=by
 constructor
 ·have:=Nat.one_le_two_pow (n:=k);exact_mod_cast this
 ·have:=Nat.pow_le_pow_right (n:=2) (by omega) h;exact_mod_cast this
theorem zaK (x:Int) (k:Nat):x/2 ^ k/2=x/2 ^ (k+1):=by
 rw [Int.pow_succ,Int.ediv_ediv_of_nonneg]
 exact Int.le_of_lt (Int.pow_pos (by omega))
theorem zfD (x:Int) (f n:Nat) (w:World) (hx:0≤x) (hx2:x≤18446744073709551615) (hf:f≤63) (hn:n≤63) :
    Calls Tryz.prog 199 #[.int .u64 x,.int .i64 f,.int .i64 n] w fun e w'=>e=.returned (.int .u64 (x/2 ^ f%2 ^ n))∧w=w':=by
 go_enter Tryz.func199,Tryz.ntmps199
 go_wp2
 go_loop [0,7] (fun a i=>∃ k:Nat,k≤f∧i=.int .i64 k∧a=.int .u64 (x/2 ^ k)) (fun _ i=>f-(intOf i).toNat)
 case atStart=>exact ⟨0,by omega,rfl,by simp⟩
 case round =>
  obtain ⟨k,hk,rfl,rfl⟩:=hrel
  have hd:=zaK x k
  have h0:0≤x/2 ^ k:=Int.ediv_nonneg hx (Int.le_of_lt (Int.pow_pos (by omega)))
  have h1:x/2 ^ k≤18446744073709551615:=Int.le_trans (Int.ediv_le_self _ hx) hx2
  obtain ⟨y,hy⟩:∃ y,x/2 ^ k=y:=⟨_,rfl⟩
  rw [hy] at hd h0 h1 ⊢
  have HD:=LH hd
  have HY:=LH hy
  clear hd hy
  by_cases hlt:k<f
  ·have hlt':(k:Int)<f:=by omega
   have hw:IntKind.i64.wrap ((k:Int)+1)=(k:Int)+1:=IntWalk.i64_in _ (by omega)
   go_wp2
   go_round
   case rel=>exact ⟨k+1,by omega,by go_num,by rw [← HD.out]⟩
   case measure=>simp [intOf];omega
  ·obtain rfl:k=f:=by omega
   have hlt':¬ ((k:Int)<k):=by omega
   go_wp2
   go_loop [8,9] (fun a i=>∃ j:Nat,j≤n∧i=.int .i64 j∧a=.int .u64 (2 ^ j)) (fun _ i=>n-(intOf i).toNat)
   case atStart=>exact ⟨0,by omega,rfl,rfl⟩
   case round =>
    obtain ⟨j,hj,rfl,rfl⟩:=hrel
    have hp:=zAE (k:=j) (n:=63) (by omega)
    have hp2:=zAE (k:=n) (n:=63) (by omega)
    have hps:(2:Int) ^ (j+1)=2*2 ^ j:=by rw [Int.pow_succ,Int.mul_comm]
    have h63:(2:Int) ^ 63=9223372036854775808:=by decide
    rw [h63] at hp hp2
    obtain ⟨z,hz⟩:∃ z:Int,2 ^ j=z:=⟨_,rfl⟩
    rw [hz] at hp hps ⊢
    have HPS:=LH hps
    have HZ:=LH hz
    clear hps hz h63
    by_cases hlt2:j<n
    ·have hlt2':(j:Int)<n:=by omega
     have hw:IntKind.i64.wrap ((j:Int)+1)=(j:Int)+1:=IntWalk.i64_in _ (by omega)
     have hpl:=zAE (k:=j+1) (n:=63) (by omega)
     have hw2:IntKind.u64.wrap (2*z)=2*z:=IntWalk.u64_in _ (by rw [HPS.out] at hpl;omega)
     clear hpl
     go_wp2
     go_round
     case rel=>exact ⟨j+1,by omega,by go_num,by rw [← HPS.out]⟩
     case measure=>simp [intOf];omega
    ·obtain rfl:j=n:=by omega
     have hlt2':¬ ((j:Int)<j):=by omega
     have hz0:z≠0:=by omega
     have hz1:1≤z:=hp.1
     clear hp hp2
     go_wp2
     go_ret
     exact ⟨ret_i (by rw [HY.out,HZ.out]),rfl⟩
theorem zHB (x:Int) (w:World) (hx:0≤x) (hx2:x<1073741824) :
    Calls Tryz.prog 200 #[.int .u64 x,.int .i64 30] w fun e w'=>e=.returned (.int .i64 (sg30 x))∧w=w':=by
 go_enter Tryz.func200,Tryz.ntmps200
 go_wp2
 go_loop [5,6] (fun a i=>∃ j:Nat,j≤29∧i=.int .i64 (j+1:Nat)∧a=.int .i64 (2 ^ j)) (fun _ i=>30-(intOf i).toNat)
 case atStart=>exact ⟨0,by omega,rfl,rfl⟩
 case round =>
  obtain ⟨j,hj,rfl,rfl⟩:=hrel
  have hp:=zAE (k:=j) (n:=29) (by omega)
  have hps:(2:Int) ^ (j+1)=2*2 ^ j:=by rw [Int.pow_succ,Int.mul_comm]
  have h29:(2:Int) ^ 29=536870912:=by decide
  rw [h29] at hp
  have h29':j=29→(2:Int) ^ j=536870912:=fun e=>by rw [e];exact h29
  obtain ⟨z,hz⟩:∃ z:Int,2 ^ j=z:=⟨_,rfl⟩
  rw [hz] at hp hps h29' ⊢
  have HPS:=LH hps
  have H29:=LH h29'
  clear hps hz h29 h29'
  by_cases hlt:j<29
  ·have hlt':((j+1:Nat):Int)<30:=by omega
   have hw:IntKind.i64.wrap (((j+1:Nat):Int)+1)=((j+1:Nat):Int)+1:=IntWalk.i64_in _ (by omega)
   have hw2:IntKind.i64.wrap (2*z)=2*z:=IntWalk.i64_in _ (by omega)
   obtain ⟨j1,hj1⟩:∃ j1,j+1=j1:=⟨_,rfl⟩
   rw [hj1] at hlt' hw ⊢
   have HJ:=LH hj1
   clear hj1
   go_wp2
   go_round
   case rel=>exact ⟨j+1,by omega,by rw [HJ.out];go_num,by rw [← HPS.out]⟩
   case measure=>simp [intOf];have:=HJ.out;omega
  ·obtain rfl:j=29:=by omega
   have hz:=H29.out rfl
   subst hz
   clear H29 HPS hp hj hlt
   by_cases h5:x<536870912
   ·have hc:x%1073741824=x:=by omega
    have h5':¬ 536870912≤x:=by omega
    go_wp2
    go_ret
    exact ⟨ret_i (zlL h5),rfl⟩
   ·have hc:x%1073741824=x:=by omega
    have h5':536870912≤x:=by omega
    go_wp2
    go_ret
    exact ⟨ret_i (zmL h5'),rfl⟩
end Go.Proofs.YtfkcpaahdlkcdaaGreat

import Derived.Test.YtfkcpaahdlkcdaaGreatRRecvSum02
import Derived.RegionTactic
set_option linter.unusedSimpArgs false
set_option linter.unusedVariables false
set_option maxRecDepth 100000
set_option maxHeartbeats 16000000
namespace Go.Proofs.YtfkcpaahdlkcdaaGreat
open Go.RowKit
def putB (x:Int) (s:Nat):List Int:=(List.range s).map (fun k=>x/2 ^ (8*k)%256)
theorem zX (x:Int) (s:Nat):(putB x s).length=s:=by simp [putB]
theorem zzG (l:List Int) (i:Nat) (x:Int):(u8s l).set i (.int .u8 x)=u8s (l.set i x):=by
 simp [u8s,List.map_set]
def putS (x:Int) (s k:Nat):List Int:=(List.range s).map (fun j=>if j<k then x/2 ^ (8*j)%256 else 0)
theorem zMI (x:Int) (s k:Nat) (hk:k<s):(putS x s k).set k (x/2 ^ (8*k)%256)=putS x s (k+1):=by
 apply List.ext_getElem (by simp [putS])
 intro j h1 h2
 rw [List.getElem_set]
 simp only [putS,List.getElem_map,List.getElem_range]
 split
 ·rename_i e
  subst e
  rw [if_pos (by omega)]
 ·rename_i e
  by_cases hj:j<k
  ·rw [if_pos hj,if_pos (by omega)]
  ·rw [if_neg hj,if_neg (by omega)]
theorem zNI (x:Int) (s:Nat):putS x s s=putB x s:=by
 unfold putS putB
 apply List.map_congr_left
 intro j hj
 rw [if_pos (by simpa using hj)]
theorem zJB (x:Int) (s:Nat) (w:World) (hx:0≤x) (hx2:x≤18446744073709551615) (h1:1≤s) (h8:s≤8) :
    Calls Tryz.prog 137 #[.int .u64 x,.int .i64 s] w fun e w'=>∃ A c,e=.returned (.slice A (putB x s).length c)∧Grow w w'∧w'.ownsRow w.heap.size 5 1 (.slice A (putB x s).length c) (putB x s).length (u8s (putB x s)):=by
 obtain ⟨ib,hib,hb1,hb2,hb3⟩:∃ i,Tryz.prog.info? 5=some i∧i.zero=some (.int .u8 0)∧i.size=1∧i.bytes=1:=by
  have h:=zy
  cases hi:Tryz.prog.info? 5 with
  | none=>rw [hi] at h;cases h
  | some i =>
   rw [hi] at h
   simp only [Option.map_some,Option.some.injEq,Prod.mk.injEq] at h
   exact ⟨i,rfl,h.1,h.2.1,h.2.2⟩
 have hs0:(0:Int)<s:=by omega
 have hs8:(s:Int)≤8:=by omega
 go_enter Tryz.func137,Tryz.ntmps137
 go_wp2_with (at_make;refine wpList_make_full _ rfl _ _ _ rfl w.heap.size 5 ib (.int .u8 0) 1 zW hib hb1 hb2 _ _ _ _ s rfl rfl rfl rfl (by rw [hb3];omega) (by simp [maxLen];omega) (Nat.le_refl _) ?_;intro w2 hown hgr;refine Hid.out ?_)
 refine LH ?_
 have h0:u8s (putS x s 0)=(madeCells (Value.int .u8 0).cells (s*1)).toList:=by
  apply List.ext_getElem (by simp [u8s,putS,madeCells,Value.cells])
  intro j h1 h2
  simp [u8s,putS,madeCells,Value.cells,Nat.mod_one]
 rw [← h0] at hown
 have HS:Hid (Grow w w2∧w2.ownsRow w.heap.size 5 1 (.slice (some ⟨w.heap.size,0,none⟩) s s) s (u8s (putS x s 0))):=⟨(Keep.refl NoB w).grown hgr (by simp),hown⟩
 clear hib hb1 hb2 hb3 hgr hown h0
 go_wp2
 go_loopw [13] (fun v wr=>∃ k:Nat,k≤s∧v=.int .i64 k∧Hid (Grow w wr∧wr.ownsRow w.heap.size 5 1 (.slice (some ⟨w.heap.size,0,none⟩) s s) s (u8s (putS x s k)))) (fun v _=>s-(intOf v).toNat)
 case atStart=>exact ⟨0,by omega,rfl,HS⟩
 case round =>
  clear HS
  obtain ⟨k,hk,rfl,HS⟩:=hrel
  by_cases hlt:k<s
  ·have hlt':(k:Int)<s:=by omega
   have hw:IntKind.i64.wrap ((k:Int)+1)=(k:Int)+1:=IntWalk.i64_in _ (by omega)
   have hst:=HS.out.2.stored k (.int .u8 (x/2 ^ (8*k)%256))
   rw [zzG,zMI x s k hlt] at hst
   have hg3:=HS.out.1.setCell (p:=⟨w.heap.size,k,none⟩) (.inr (Nat.le_refl _)) (.int .u8 (x/2 ^ (8*k)%256))
   have HS2:=LH (And.intro hg3 hst.1)
   obtain ⟨c,hc⟩:∃ c,wr.cell? ⟨w.heap.size,k,none⟩=some c:=by
    obtain ⟨r,c2,e,_,_,hcs⟩:=zMA HS.out.2 (by omega)
    injection e with e1
    injection e1 with e1
    injection e1 with e1
    subst e1
    have:=hcs k ((u8s (putS x s k))[k]'(by simp [u8s,putS];omega)) (List.getElem?_eq_getElem _)
    exact ⟨_,by simpa using this⟩
   have hf:wr.frozen? ⟨w.heap.size,k,none⟩=false:=HS.out.2.frozenAt _
   clear hst hg3
   go_wp2
   go_roundw
   case rel=>exact ⟨k+1,by omega,by go_num,HS2.out.1,HS2.out.2⟩
   case measure=>simp [intOf];omega
  ·obtain rfl:k=s:=by omega
   have hlt':¬ ((k:Int)<k):=by omega
   go_wp2
   go_ret
   have ho:=HS.out.2
   rw [zNI] at ho
   exact ⟨some ⟨w.heap.size,0,none⟩,k,by rw [zX];rfl,HS.out.1,by rw [zX];exact ho⟩
def Dec (D:Nat) (sv:Value) (paid:Int) (w:World):Prop:=w.heap[D]? = some (.cells #[sv,.int .i64 paid] 342 (0,0))
theorem Dec.lt {D:Nat} {sv:Value} {paid:Int} {w:World} (h:Dec D sv paid w):D<w.heap.size:=(gE h).1
theorem Dec.grow {D:Nat} {sv:Value} {paid:Int} {w w':World} (h:Dec D sv paid w) (hg:Grow w w'):Dec D sv paid w':=hg.heap h
theorem Dec.c0 {D:Nat} {sv:Value} {paid:Int} {w:World} (h:Dec D sv paid w):w.cell? ⟨D,0,none⟩=some sv:=World.news_of_block h 0 _ rfl
theorem Dec.c1 {D:Nat} {sv:Value} {paid:Int} {w:World} (h:Dec D sv paid w):w.cell? ⟨D,1,none⟩=some (.int .i64 paid):=World.news_of_block h 1 _ rfl
def wordsP (wd:Int→Int→Int×Int) (seg at_:Int) (n:Nat):List Int:=(List.range n).map (fun (i:Nat)=>(wd seg (at_+i)).1)
theorem zj (wd:Int→Int→Int×Int) (seg at_:Int) (n:Nat):(wordsP wd seg at_ n).length=n:=by simp [wordsP]
theorem zRD (wd:Int→Int→Int×Int) (seg at_:Int) (n:Nat):u64s (wordsP wd seg at_ (n+1))=u64s (wordsP wd seg at_ n)++[.int .u64 (wd seg (at_+n)).1]:=by
 simp [wordsP,u64s,List.range_succ]
theorem zgC {D:Nat} {sv:Value} {sz:List Int} {wd:Int→Int→Int×Int} {paid:Int} {w:World} (hD:Dec D sv paid w) (h:Sou sv sz wd w) (seg at_:Int) (n:Nat) (h0:0≤at_) (h1:at_+n≤10000000) :
    Calls Tryz.prog 266 #[.pointer (some ⟨D,0,none⟩),.int .i64 seg,.int .i64 at_,.int .i64 n] w fun e w'=>∃ A c,e=.returned (.slice A n c)∧Grow w w'∧w'.ownsRow w.heap.size 22 1 (.slice A n c) n (u64s (wordsP wd seg at_ n)):=by
 obtain ⟨T,pv,fw,fs,r,rfl,h2,h3,k1,k2,h4,h5⟩:=h.out
 have HD:=LH hD
 have H4:=LH h4
 clear h hD h3 k2 h4 h5
 have hlo:at_≤10000000:=by omega
 have hnn:n≤10000000:=by omega
 go_enter Tryz.func266,Tryz.ntmps266
 go_wp2
 go_loopw [9,14] (fun vo v wr=>∃ k:Nat,k≤n∧v=.int .i64 k∧∃ A4 c4,vo=.slice A4 k c4∧Hid (Grow w wr∧wr.ownsRow w.heap.size 22 1 (.slice A4 k c4) k (u64s (wordsP wd seg at_ k)))) (fun _ v _=>n-(intOf v).toNat)
 case atStart=>exact ⟨0,by omega,rfl,none,0,rfl,Keep.refl _ _,by simpa [u64s,wordsP] using World.ownsRow_nil w w.heap.size 22 1⟩
 case round =>
  obtain ⟨k,hk,rfl,A4,c4,rfl,HS⟩:=hrel
  by_cases hlt:k<n
  ·have hw:IntKind.i64.wrap ((k:Int)+1)=(k:Int)+1:=IntWalk.i64_in _ (by omega)
   have hlt':(k:Int)<n:=by omega
   have hc0:=(HD.out.grow HS.out.1).c0
   go_wp2_with fail
   refine (H4.out _ HS.out.1 seg (at_+k)).mono ?_
   rintro e w2 ⟨rfl,hg⟩
   have HS2:Hid (Grow w w2∧w2.ownsRow w.heap.size 22 1 (.slice A4 k c4) k (u64s (wordsP wd seg at_ k))):=⟨HS.out.1.grow hg,zE HS.out.2 hg (fun _ _ h=>h)⟩
   have E1:=LH (zRD wd seg at_ k)
   clear hg hc0
   go_wp2_with (at_builtin;refine zL _ rfl _ _ 111 111 rfl w.heap.size 22 (.int .u64 0) 1 8 zBA ze rfl (.slice A4 k c4) k (u64s (wordsP wd seg at_ k)) rfl (.slice (some ⟨w2.heap.size,0,none⟩) 1 1) 1 [.int .u64 (wd seg (at_+k)).1] rfl ?_ (by exact zE HS2.out.2 ((Keep.refl NoB w2).alloc _) (fun _ _ h=>h)) (by exact Src.ofSlice _ zBA ⟨w2.heap.size,0,none⟩ 1 1 _ rfl (World.news_of_block (cs:=#[.int .u64 (wd seg (at_+k)).1]) (t:=22) (fr:=(0,0)) (heap_alloc_new w2 _)) (by simp [Value.oneCell'])) (by simp only [maxLen];omega) (by omega) (by have:=HS2.out.1.size;simp;omega);intro v3 w3 hap;refine Hid.out ?_)
   refine LH ?_
   have Hg3:Hid (Grow w w3):=((((HS2.out.1.mono (T:=fun k=>w.heap.size≤k) (fun _ h=>h.elim)).alloc _).grown hap.grew (fun k hk=>.inl (HS2.out.2.lt k hk).1))).new (fun _ h=>h)
   have Ho3:=LH hap.own
   obtain ⟨A6,c6,rfl,_⟩:=zJ hap.own
   clear hap
   rw [← E1.out] at Ho3
   go_wp2
   go_roundw
   case rel=>exact ⟨k+1,by omega,by go_num,A6,c6,rfl,Hg3.out,Ho3.out⟩
   case measure=>simp [intOf];omega
  ·obtain rfl:k=n:=by omega
   have hlt':¬ ((k:Int)<k):=by omega
   go_wp2
   go_ret
   exact ⟨A4,c4,rfl,HS.out.1,HS.out.2⟩
theorem zQF {base e size n c:Nat} {A:Option Addr} {xs:List Value} {w:World} (h:w.ownsRow base e size (.slice A n c) n xs) (m:Nat) (hm:m≤n):w.ownsRow base e size (.slice A m c) m (xs.take (m*size)):=by
 have hle:m*size≤n*size:=Nat.mul_le_mul_right _ hm
 obtain ⟨h1,h2⟩:=h
 refine ⟨by rw [List.length_take,h1];omega,?_⟩
 rcases h2 with ⟨h2,h3⟩ | ⟨g,cap,cur,hv,hb,hg,hn,hmx,hs,ht⟩
 ·injection h2 with e1 e2 e3
  subst e1
  subst e3
  left
  obtain rfl:m=0:=by omega
  exact ⟨rfl,by simp⟩
 ·injection hv with hv1 hv2 hv3
  subst hv3
  refine .inr ⟨g,c,cur,by rw [hv1],hb,hg,by omega,hmx,hs,?_⟩
  rw [← ht,List.take_take]
  congr 1
  omega
def bytesQ (wd:Int→Int→Int×Int) (seg at_:Int) (m:Nat):List Int:=(wordsP wd seg at_ m).flatMap (fun x=>putB x 8)
def bytesP (wd:Int→Int→Int×Int) (seg at_:Int) (n:Nat):List Int:=(bytesQ wd seg at_ ((n+7)/8)).take n
theorem zEB (wd:Int→Int→Int×Int) (seg at_:Int) (m:Nat):(bytesQ wd seg at_ m).length=m*8:=by
 induction m with
 | zero=>simp [bytesQ,wordsP]
 | succ m ih =>
  have:bytesQ wd seg at_ (m+1)=bytesQ wd seg at_ m++putB (wd seg (at_+m)).1 8:=by simp [bytesQ,wordsP,List.range_succ]
  rw [this,List.length_append,ih,zX]
  omega
theorem zXG (wd:Int→Int→Int×Int) (seg at_:Int) (m:Nat):u8s (bytesQ wd seg at_ (m+1))=u8s (bytesQ wd seg at_ m)++u8s (putB (wd seg (at_+m)).1 8):=by
 simp [bytesQ,wordsP,List.range_succ,u8s]
theorem zGA (wd:Int→Int→Int×Int) (seg at_:Int) (n:Nat):(bytesP wd seg at_ n).length=n:=by
 unfold bytesP
 rw [List.length_take,zEB]
 omega
theorem zxB (n:Nat) (w:World) (h:n≤10000000):Calls Tryz.prog 140 #[.int .i64 n,.int .i64 8] w fun e w'=>e=.returned (.int .i64 ((n+7)/8:Nat))∧w=w':=by
 refine (znD n 8 w (by omega) (by omega) (by omega) (by omega)).mono ?_
 rintro e w' ⟨rfl,rfl⟩
 exact ⟨by congr 2;omega,rfl⟩
theorem zmA {base b2 e size n:Nat} {v:Value} {xs:List Value} {w:World} (h:w.ownsRow base e size v n xs) (hb:b2≤base):w.ownsRow b2 e size v n xs:=by
 refine ⟨h.1,?_⟩
 rcases h.2 with h2 | ⟨g,cap,cur,rfl,hg,r⟩
 ·exact .inl h2
 ·exact .inr ⟨g,cap,cur,rfl,Nat.le_trans hb hg,r⟩
theorem zRF {D:Nat} {sv:Value} {sz:List Int} {wd:Int→Int→Int×Int} {paid:Int} {w:World} (hD:Dec D sv paid w) (h:Sou sv sz wd w) (hv:∀ seg at_,0≤(wd seg at_).1∧(wd seg at_).1≤18446744073709551615) (seg at_:Int) (n:Nat) (h0:0≤at_) (h1:at_≤1000000) (hn:n≤1000000) :
    Calls Tryz.prog 267 #[.pointer (some ⟨D,0,none⟩),.int .i64 seg,.int .i64 at_,.int .i64 n] w fun e w'=>∃ A c,e=.returned (.slice A n c)∧Grow w w'∧w'.ownsRow w.heap.size 5 1 (.slice A n c) n (u8s (bytesP wd seg at_ n)):=by
 have HD:=LH hD
 have HS:=LH h
 have HV:=LH hv
 clear h hD hv
 have hm7:n≤(n+7)/8*8:=by omega
 have hmb:(n+7)/8≤1000000:=by omega
 have hC:=zxB n w (by omega)
 have hBP:bytesP wd seg at_ n=(bytesQ wd seg at_ ((n+7)/8)).take n:=rfl
 generalize (n+7)/8=m at hm7 hmb hC hBP
 have HC:=LH hC
 have HBP:=LH hBP
 clear hC hBP
 go_enter Tryz.func267,Tryz.ntmps267
 go_wp2_with fail
 refine HC.out.mono ?_
 rintro e w1 ⟨rfl,rfl⟩
 go_wp2_with fail
 refine (zgC HD.out HS.out seg at_ m h0 (by omega)).mono ?_
 rintro e w1 ⟨A1,c1,rfl,hg1,ho1⟩
 have Hg1:=LH hg1
 have Ho1:=LH ho1
 clear hg1 ho1
 go_wp2
 go_loopw [9,19] (fun vo v wr=>∃ k:Nat,k≤m∧v=.int .i64 k∧∃ A4 c4,vo=.slice A4 (k*8) c4∧Hid (Grow w1 wr∧wr.ownsRow w1.heap.size 5 1 (.slice A4 (k*8) c4) (k*8) (u8s (bytesQ wd seg at_ k)))) (fun _ v _=>m-(intOf v).toNat)
 case atStart=>exact ⟨0,by omega,rfl,none,0,by simp,Keep.refl _ _,by simpa [u8s,bytesQ,wordsP] using World.ownsRow_nil w1 w1.heap.size 5 1⟩
 case round =>
  obtain ⟨k,hk,rfl,A4,c4,rfl,HL⟩:=hrel
  by_cases hlt:k<m
  ·have hw:IntKind.i64.wrap ((k:Int)+1)=(k:Int)+1:=IntWalk.i64_in _ (by omega)
   have hlt':(k:Int)<m:=by omega
   obtain ⟨ad,rfl,q1⟩:=SliceR.at1 ((SliceR.of_own Ho1.out).grow HL.out.1) k (by simpa [u64s,wordsP] using hlt)
   have e1:(u64s (wordsP wd seg at_ m))[k]'(by simpa [u64s,wordsP] using hlt)=.int .u64 (wd seg (at_+k)).1:=by simp [u64s,wordsP]
   rw [e1] at q1
   have hval:=HV.out seg (at_+k)
   have Hsu:=LH (zXG wd seg at_ k)
   clear e1
   go_wp2_with fail
   refine (zJB (wd seg (at_+k)).1 8 wr hval.1 hval.2 (by omega) (by omega)).mono ?_
   rintro e w2 ⟨A5,c5,rfl,hg,ho⟩
   have hpl:=zX (wd seg (at_+k)).1 8
   rw [hpl] at ho ⊢
   have HL2:Hid (Grow w1 w2∧w2.ownsRow w1.heap.size 5 1 (.slice A4 (k*8) c4) (k*8) (u8s (bytesQ wd seg at_ k))):=⟨HL.out.1.grow hg,zE HL.out.2 hg (fun _ _ h=>h)⟩
   have Hsrc:=LH ((SliceR.of_own ho).src zW (zHB _))
   clear hg ho hpl q1 hval
   go_wp2_with (at_builtin;refine zL _ rfl _ _ 23 23 rfl w1.heap.size 5 (.int .u8 0) 1 1 zW zy rfl (.slice A4 (k*8) c4) (k*8) (u8s (bytesQ wd seg at_ k)) rfl (.slice A5 8 c5) 8 (u8s (putB (wd seg (at_+k)).1 8)) rfl ?_ (by exact HL2.out.2) (by exact Hsrc.out) (by simp only [maxLen];omega) (by omega) (by exact HL2.out.1.size);intro v3 w3 hap;refine Hid.out ?_)
   refine LH ?_
   have Hg3:Hid (Grow w1 w3):=(((HL2.out.1.mono (T:=fun k=>w1.heap.size≤k) (fun _ h=>h.elim)).grown hap.grew (fun k hk=>.inl (HL2.out.2.lt k hk).1))).new (fun _ h=>h)
   have ho3:=hap.own
   rw [← Hsu.out,show k*8+8=(k+1)*8 from by omega] at ho3
   have Ho3:=LH ho3
   obtain ⟨A6,c6,rfl,_⟩:=zJ ho3
   clear hap ho3
   go_wp2
   go_roundw
   case rel=>exact ⟨k+1,by omega,by go_num,A6,c6,rfl,Hg3.out,Ho3.out⟩
   case measure=>simp [intOf];omega
  ·obtain rfl:k=m:=by omega
   have hlt':¬ ((k:Int)<k):=by omega
   have hnk:(n:Int)≤(k*8:Nat):=by omega
   obtain ⟨A7,c7,e7,hnc,_,hnil⟩:=zJ HL.out.2
   injection e7 with e7a e7b e7c
   subst e7a
   subst e7c
   have hnc':(n:Int)≤c4:=by omega
   go_wp2
   go_ret
   have ho:=zQF HL.out.2 n hm7
   rw [Nat.mul_one,show (u8s (bytesQ wd seg at_ k)).take n=u8s (bytesP wd seg at_ n) from by rw [HBP.out];simp [u8s,List.map_take]] at ho
   exact ⟨A4,c4,rfl,Hg1.out.grow HL.out.1,zmA ho Hg1.out.size⟩
def ownB (kind size:Int) (nw nb nk:Nat):Bool :=
 if kind=0 then size==0&&nw+nb+nk==0
 else if kind=1 then size==0&&nb==0&&decide (max nw nk≤100)
 else if kind=2 then
  if size=2 then nw+nk==0&&decide (nb≤4096)
  else if size=5 then nb+nk==0&&decide (nw≤4096)
  else if size=6 then nb+nw==0&&decide (nk≤4096)
  else false
 else false
theorem zbE (kind size:Int) (A1 A2 A3:Option Addr) (nw nb nk c1 c2 c3:Nat) (w:World) (h1:nw≤10000000) (h2:nb≤10000000) (h3:nk≤10000000) :
    Calls Tryz.prog 268 #[.agg #[.int .i64 kind,.int .i64 size,.slice A1 nw c1,.slice A2 nb c2,.slice A3 nk c3]] w fun e w'=>e=.returned (.bool (ownB kind size nw nb nk))∧Grow w w':=by
 have hd:=heap_alloc_new w (.cells #[.int .i64 kind,.int .i64 size,.slice A1 nw c1,.slice A2 nb c2,.slice A3 nk c3] 114)
 have Hg:=LH (fun (cs:Array Value)=>((Keep.refl NoB w).alloc (.cells cs 114)).drew)
 obtain ⟨x0,x1,x2,x3,x4,xf⟩:=zA (w:=(w.alloc (.cells #[.int .i64 kind,.int .i64 size,.slice A1 nw c1,.slice A2 nb c2,.slice A3 nk c3] 114)).drew) hd
 clear hd
 by_cases k0:kind=0
 ·subst k0
  by_cases s0:size=0
  ·subst s0
   go_enter Tryz.func268,Tryz.ntmps268
   go_wp2
   refine zD [0,1,2,3,4,5,6,7,8,9,10,11] [9,10,11] [1,4,7] [] rfl (by kernel_rfl) ?_
   refine ord_p ?_
   refine ord_r (y:=by intro w' hg;have q:=hg.cell x2 (fun h=>h);go_simp;with_reducible rfl) (z:=?_)
   iterate 2
    refine ord_p ?_
   refine ord_r (y:=by intro w' hg;have q:=hg.cell x3 (fun h=>h);go_simp;with_reducible rfl) (z:=?_)
   iterate 2
    refine ord_p ?_
   refine ord_r (y:=by intro w' hg;have q:=hg.cell x4 (fun h=>h);go_simp;with_reducible rfl) (z:=?_)
   refine ord_p ?_
   iterate 3
    refine ord_s ?_
   refine zF ?_
   go_wp2
   all_goals
    go_ret
    refine ⟨?_,Hg.out _⟩
    show Ending.returned (Value.bool _)=Ending.returned (Value.bool _)
    congr 2
    simp [ownB]
    all_goals first | (rw [Bool.eq_iff_iff];simp;omega) | (intros;omega)
  ·have sb:(size==0)=false:=by simp [s0]
   go_enter Tryz.func268,Tryz.ntmps268
   go_wp2
   refine zD [0,1,2,3,4,5,6,7,8,9,10,11] [9,10,11] [1,4,7] [] rfl (by kernel_rfl) ?_
   refine ord_p ?_
   refine ord_r (y:=by intro w' hg;have q:=hg.cell x2 (fun h=>h);go_simp;with_reducible rfl) (z:=?_)
   iterate 2
    refine ord_p ?_
   refine ord_r (y:=by intro w' hg;have q:=hg.cell x3 (fun h=>h);go_simp;with_reducible rfl) (z:=?_)
   iterate 2
    refine ord_p ?_
   refine ord_r (y:=by intro w' hg;have q:=hg.cell x4 (fun h=>h);go_simp;with_reducible rfl) (z:=?_)
   refine ord_p ?_
   iterate 3
    refine ord_s ?_
   refine zF ?_
   go_wp2
   all_goals
    go_ret
    refine ⟨?_,Hg.out _⟩
    show Ending.returned (Value.bool _)=Ending.returned (Value.bool _)
    congr 2
    simp [ownB,s0]
    all_goals first | (rw [Bool.eq_iff_iff];simp;omega) | (intros;omega)
 have kb0:(kind==0)=false:=by simp [k0]
 by_cases k1:kind=1
 ·subst k1
  clear k0 kb0
  by_cases s0:size=0
  ·subst s0
   rcases Nat.lt_trichotomy nw nk with hl | rfl | hl
   all_goals
    go_enter Tryz.func268,Tryz.ntmps268
    go_wp2
    refine zD [0,1,2,3,4,5,6,7,8,9,10,11] [9,10,11] [1,4,7] [] rfl (by kernel_rfl) ?_
    refine ord_p ?_
    refine ord_r (y:=by intro w' hg;have q:=hg.cell x2 (fun h=>h);go_simp;with_reducible rfl) (z:=?_)
    iterate 2
     refine ord_p ?_
    refine ord_r (y:=by intro w' hg;have q:=hg.cell x3 (fun h=>h);go_simp;with_reducible rfl) (z:=?_)
    iterate 2
     refine ord_p ?_
    refine ord_r (y:=by intro w' hg;have q:=hg.cell x4 (fun h=>h);go_simp;with_reducible rfl) (z:=?_)
    refine ord_p ?_
    iterate 3
     refine ord_s ?_
    refine zF ?_
    go_wp2
    all_goals
     go_ret
     refine ⟨?_,Hg.out _⟩
     show Ending.returned (Value.bool _)=Ending.returned (Value.bool _)
     congr 2
     simp [ownB]
     all_goals first | (rw [Bool.eq_iff_iff];simp;omega) | (intros;omega)
  ·have sb:(size==0)=false:=by simp [s0]
   go_enter Tryz.func268,Tryz.ntmps268
   go_wp2
   refine zD [0,1,2,3,4,5,6,7,8,9,10,11] [9,10,11] [1,4,7] [] rfl (by kernel_rfl) ?_
   refine ord_p ?_
   refine ord_r (y:=by intro w' hg;have q:=hg.cell x2 (fun h=>h);go_simp;with_reducible rfl) (z:=?_)
   iterate 2
    refine ord_p ?_
   refine ord_r (y:=by intro w' hg;have q:=hg.cell x3 (fun h=>h);go_simp;with_reducible rfl) (z:=?_)
   iterate 2
    refine ord_p ?_
   refine ord_r (y:=by intro w' hg;have q:=hg.cell x4 (fun h=>h);go_simp;with_reducible rfl) (z:=?_)
   refine ord_p ?_
   iterate 3
    refine ord_s ?_
   refine zF ?_
   go_wp2
   all_goals
    go_ret
    refine ⟨?_,Hg.out _⟩
    show Ending.returned (Value.bool _)=Ending.returned (Value.bool _)
    congr 2
    simp [ownB,s0]
    all_goals first | (rw [Bool.eq_iff_iff];simp;omega) | (intros;omega)
 have kb1:(kind==1)=false:=by simp [k1]
 by_cases k2:kind=2
 ·subst k2
  clear k0 kb0 k1 kb1
  by_cases s2:size=2
  ·subst s2
   go_enter Tryz.func268,Tryz.ntmps268
   go_wp2
   refine zD [0,1,2,3,4,5,6,7,8,9,10,11] [9,10,11] [1,4,7] [] rfl (by kernel_rfl) ?_
   refine ord_p ?_
   refine ord_r (y:=by intro w' hg;have q:=hg.cell x2 (fun h=>h);go_simp;with_reducible rfl) (z:=?_)
   iterate 2
    refine ord_p ?_
   refine ord_r (y:=by intro w' hg;have q:=hg.cell x3 (fun h=>h);go_simp;with_reducible rfl) (z:=?_)
   iterate 2
    refine ord_p ?_
   refine ord_r (y:=by intro w' hg;have q:=hg.cell x4 (fun h=>h);go_simp;with_reducible rfl) (z:=?_)
   refine ord_p ?_
   iterate 3
    refine ord_s ?_
   refine zF ?_
   go_wp2
   all_goals
    go_ret
    refine ⟨?_,Hg.out _⟩
    show Ending.returned (Value.bool _)=Ending.returned (Value.bool _)
    congr 2
    simp [ownB]
    all_goals first | (rw [Bool.eq_iff_iff];simp;omega) | (intros;omega)
  have sb2:(size==2)=false:=by simp [s2]
  by_cases s5:size=5
  ·subst s5
   clear s2 sb2
   go_enter Tryz.func268,Tryz.ntmps268
   go_wp2
   refine zD [0,1,2,3,4,5,6,7,8,9,10,11] [9,10,11] [1,4,7] [] rfl (by kernel_rfl) ?_
   refine ord_p ?_
   refine ord_r (y:=by intro w' hg;have q:=hg.cell x2 (fun h=>h);go_simp;with_reducible rfl) (z:=?_)
   iterate 2
    refine ord_p ?_
   refine ord_r (y:=by intro w' hg;have q:=hg.cell x3 (fun h=>h);go_simp;with_reducible rfl) (z:=?_)
   iterate 2
    refine ord_p ?_
   refine ord_r (y:=by intro w' hg;have q:=hg.cell x4 (fun h=>h);go_simp;with_reducible rfl) (z:=?_)
   refine ord_p ?_
   iterate 3
    refine ord_s ?_
   refine zF ?_
   go_wp2
   all_goals
    go_ret
    refine ⟨?_,Hg.out _⟩
    show Ending.returned (Value.bool _)=Ending.returned (Value.bool _)
    congr 2
    simp [ownB]
    all_goals first | (rw [Bool.eq_iff_iff];simp;omega) | (intros;omega)
  have sb5:(size==5)=false:=by simp [s5]
  by_cases s6:size=6
  ·subst s6
   clear s2 sb2 s5 sb5
   go_enter Tryz.func268,Tryz.ntmps268
   go_wp2
   refine zD [0,1,2,3,4,5,6,7,8,9,10,11] [9,10,11] [1,4,7] [] rfl (by kernel_rfl) ?_
   refine ord_p ?_
   refine ord_r (y:=by intro w' hg;have q:=hg.cell x2 (fun h=>h);go_simp;with_reducible rfl) (z:=?_)
   iterate 2
    refine ord_p ?_
   refine ord_r (y:=by intro w' hg;have q:=hg.cell x3 (fun h=>h);go_simp;with_reducible rfl) (z:=?_)
   iterate 2
    refine ord_p ?_
   refine ord_r (y:=by intro w' hg;have q:=hg.cell x4 (fun h=>h);go_simp;with_reducible rfl) (z:=?_)
   refine ord_p ?_
   iterate 3
    refine ord_s ?_
   refine zF ?_
   go_wp2
   all_goals
    go_ret
    refine ⟨?_,Hg.out _⟩
    show Ending.returned (Value.bool _)=Ending.returned (Value.bool _)
    congr 2
    simp [ownB]
    all_goals first | (rw [Bool.eq_iff_iff];simp;omega) | (intros;omega)
  have sb6:(size==6)=false:=by simp [s6]
  go_enter Tryz.func268,Tryz.ntmps268
  go_wp2
  refine zD [0,1,2,3,4,5,6,7,8,9,10,11] [9,10,11] [1,4,7] [] rfl (by kernel_rfl) ?_
  refine ord_p ?_
  refine ord_r (y:=by intro w' hg;have q:=hg.cell x2 (fun h=>h);go_simp;with_reducible rfl) (z:=?_)
  iterate 2
   refine ord_p ?_
  refine ord_r (y:=by intro w' hg;have q:=hg.cell x3 (fun h=>h);go_simp;with_reducible rfl) (z:=?_)
  iterate 2
   refine ord_p ?_
  refine ord_r (y:=by intro w' hg;have q:=hg.cell x4 (fun h=>h);go_simp;with_reducible rfl) (z:=?_)
  refine ord_p ?_
  iterate 3
   refine ord_s ?_
  refine zF ?_
  go_wp2
  all_goals
   go_ret
   refine ⟨?_,Hg.out _⟩
   show Ending.returned (Value.bool _)=Ending.returned (Value.bool _)
   congr 2
   simp [ownB,s2,s5,s6]
   all_goals first | (rw [Bool.eq_iff_iff];simp;omega) | (intros;omega)
 have kb2:(kind==2)=false:=by simp [k2]
 go_enter Tryz.func268,Tryz.ntmps268
 go_wp2
 refine zD [0,1,2,3,4,5,6,7,8,9,10,11] [9,10,11] [1,4,7] [] rfl (by kernel_rfl) ?_
 refine ord_p ?_
 refine ord_r (y:=by intro w' hg;have q:=hg.cell x2 (fun h=>h);go_simp;with_reducible rfl) (z:=?_)
 iterate 2
  refine ord_p ?_
 refine ord_r (y:=by intro w' hg;have q:=hg.cell x3 (fun h=>h);go_simp;with_reducible rfl) (z:=?_)
 iterate 2
  refine ord_p ?_
 refine ord_r (y:=by intro w' hg;have q:=hg.cell x4 (fun h=>h);go_simp;with_reducible rfl) (z:=?_)
 refine ord_p ?_
 iterate 3
  refine ord_s ?_
 refine zF ?_
 go_wp2
 all_goals
  go_ret
  refine ⟨?_,Hg.out _⟩
  show Ending.returned (Value.bool _)=Ending.returned (Value.bool _)
  congr 2
  simp [ownB,k0,k1,k2]
  all_goals first | (rw [Bool.eq_iff_iff];simp;omega) | (intros;omega)
inductive Tr where
 | mk (kind size:Int) (ws bs:List Int) (kids:List Tr):Tr
def Tr.kind:Tr→Int | .mk k _ _ _ _=>k
def Tr.size:Tr→Int | .mk _ s _ _ _=>s
def Tr.ws:Tr→List Int | .mk _ _ w _ _=>w
def Tr.bs:Tr→List Int | .mk _ _ _ b _=>b
def Tr.kids:Tr→List Tr | .mk _ _ _ _ k=>k
def tr0:Tr:=.mk 0 0 [] [] []
def kcs (rows:List (Tr×Value×Value×Value)):List Value:=rows.flatMap (fun r=>[.int .i64 r.1.kind,.int .i64 r.1.size,r.2.1,r.2.2.1,r.2.2.2])
theorem zNC (a b:List (Tr×Value×Value×Value)):kcs (a++b)=kcs a++kcs b:=by simp [kcs]
theorem zAH:∀ (l:List (Tr×Value×Value×Value)) (i:Nat) (h:i<l.length),(kcs l)[i*5]? = some (.int .i64 l[i].1.kind)∧(kcs l)[i*5+1]? = some (.int .i64 l[i].1.size)∧(kcs l)[i*5+2]? = some l[i].2.1∧(kcs l)[i*5+3]? = some l[i].2.2.1∧(kcs l)[i*5+4]? = some l[i].2.2.2
 | [],i,h=>by simp at h
 | x :: r,0,h=>by simp [kcs]
 | x :: r, i + 1, h => by
  obtain ⟨h0,h1,h2,h3,h4⟩:=zAH r i (by simpa using h)
  have e:kcs (x :: r)=[.int .i64 x.1.kind,.int .i64 x.1.size,x.2.1,x.2.2.1,x.2.2.2]++kcs r:=by simp [kcs]
  have s:∀ k,(kcs (x :: r))[(i+1)*5+k]? = (kcs r)[i*5+k]? := fun k=>by
   rw [e,List.getElem?_append_right (by simp;omega)]
   congr 1
   simp;omega
  exact ⟨by simpa using (s 0).trans h0,by simpa using (s 1).trans h1,by simpa using (s 2).trans h2,by simpa using (s 3).trans h3,by simpa using (s 4).trans h4⟩
inductive TrR (w:World):Tr→Value→Value→Value→Prop where
 | mk {k s:Int} {ws bs:List Int} {vw vb vk:Value} (rows:List (Tr×Value×Value×Value)) (hW:SliceR 1 vw ws.length (u64s ws) w) (hB:SliceR 1 vb bs.length (u8s bs) w)
     (hR:SliceR 5 vk rows.length (kcs rows) w) (hr:∀ r,r∈rows→TrR w r.1 r.2.1 r.2.2.1 r.2.2.2):TrR w (.mk k s ws bs (rows.map (·.1))) vw vb vk
theorem TrR.grow {w w':World} (hg:Grow w w') {t:Tr} {vw vb vk:Value} (h:TrR w t vw vb vk):TrR w' t vw vb vk:=by
 induction h with
 | mk rows hW hB hR hr ih=>exact .mk rows (hW.grow hg) (hB.grow hg) (hR.grow hg) ih
theorem za (size:Nat) (w:World):SliceR size (.slice none 0 0) 0 [] w:=⟨none,0,rfl,Nat.le_refl _,by simp,by simp,fun j u h=>by simp at h⟩
theorem TrR.nil (w:World) (k s:Int):TrR w (.mk k s [] [] []) (.slice none 0 0) (.slice none 0 0) (.slice none 0 0) :=
 .mk (rows:=[]) (za _ w) (za _ w) (za _ w) (fun r h=>by cases h)
inductive TrB:Tr→Prop where
 | mk {k s:Int} {ws bs:List Int} {kids:List Tr} (hw:ws.length≤10000000) (hb:bs.length≤10000000) (hk:kids.length≤10000000) (hr:∀ t,t∈kids→TrB t):TrB (.mk k s ws bs kids)
theorem TrB.w {t:Tr} (h:TrB t):t.ws.length≤10000000:=by cases h;assumption
theorem TrB.b {t:Tr} (h:TrB t):t.bs.length≤10000000:=by cases h;assumption
theorem TrB.k {t:Tr} (h:TrB t):t.kids.length≤10000000:=by cases h;assumption
theorem TrB.r {t:Tr} (h:TrB t):∀ u,u∈t.kids→TrB u:=by cases h;assumption
def ownT (t:Tr):Bool:=ownB t.kind t.size t.ws.length t.bs.length t.kids.length
def rightB:Nat→Tr→Bool
 | 0,t=>ownT t&&t.kind==0
 | l+1,t=>ownT t&&t.kids.all (rightB l)
theorem zSF {t:Tr} (h:ownT t=true) (hk:t.kind=0):t.kids=[]:=by
 unfold ownT ownB at h
 rw [if_pos hk] at h
 simp only [Bool.and_eq_true,beq_iff_eq] at h
 exact List.length_eq_zero_iff.1 (by omega)
theorem TrR.parts {w:World} {t:Tr} {vw vb vk:Value} (h:TrR w t vw vb vk):∃ A1 c1 A2 c2 A3 c3,vw=.slice A1 t.ws.length c1∧vb=.slice A2 t.bs.length c2∧vk=.slice A3 t.kids.length c3:=by
 cases h with
 | mk rows hW hB hR hr =>
  obtain ⟨A1,c1,rfl⟩:=hW.cut
  obtain ⟨A2,c2,rfl⟩:=hB.cut
  obtain ⟨A3,c3,rfl⟩:=hR.cut
  exact ⟨A1,c1,A2,c2,A3,c3,rfl,rfl,by simp [Tr.kids]⟩
theorem zWJ (a:Addr) (m k:Nat):(a.add m).add (k+1)=⟨(a.add m).block,(a.add m).off+(k+1),none⟩:=by
 generalize a.add m=b
 simp [Addr.add]
def RightAt (l : Nat) : Prop := ∀ (t : Tr) (vw vb vk : Value) (w : World), TrR w t vw vb vk → TrB t →
    Calls Tryz.prog 245 #[.agg #[.int .i64 t.kind,.int .i64 t.size,vw,vb,vk],.int .i64 l] w fun e w'=>e=.returned (.bool (rightB l t))∧Grow w w'
theorem zTF {l:Nat} (ih:RightAt l) (t:Tr) (vw vb vk:Value) (w:World) (h:TrR w t vw vb vk) (hb:TrB t) (hl:l≤1000) (G:Nat) (hG:w.heap[G]? = some (.cells #[.int .i64 ((l:Int)+1)] 3 (0,0))) :
    Calls Tryz.prog 270 #[.agg #[.int .i64 t.kind,.int .i64 t.size,vw,vb,vk],.pointer (some ⟨G,0,none⟩)] w fun e w'=>e=.returned (.bool (!rightB l t))∧Grow w w':=by
 obtain ⟨A1,c1,A2,c2,A3,c3,rfl,rfl,rfl⟩:=h.parts
 have hg1:=(Keep.refl NoB w).alloc (.cells #[.int .i64 t.kind,.int .i64 t.size,.slice A1 t.ws.length c1,.slice A2 t.bs.length c2,.slice A3 t.kids.length c3] 114)
 have HT:=LH (h.grow hg1)
 have HB:=LH hb
 have l0:=cell0 (Grow.heap hg1 hG)
 have HG:=LH hg1
 have hw:IntKind.i64.wrap ((l:Int)+1-1)=l:=by rw [show (l:Int)+1-1=l from by omega];exact IntWalk.i64_in _ (by omega)
 clear h hb hG hg1
 go_enter Tryz.func270,Tryz.ntmps270
 go_wp2_with fail
 refine (ih t _ _ _ _ HT.out HB.out).mono ?_
 rintro e w1 ⟨rfl,hg⟩
 have HG2:=LH (HG.out.grow hg)
 clear hg
 go_wp2
 go_ret
 exact ⟨rfl,HG2.out⟩
theorem znA {rows:List (Tr×Value×Value×Value)} {A:Option Addr} {n c:Nat} {w:World} (h:SliceR 5 (.slice A n c) rows.length (kcs rows) w) (i:Nat) (hi:i<rows.length):∃ ad,A=some ad ∧
    w.cell? (ad.add (i*5))=some (.int .i64 rows[i].1.kind)∧w.cell? ⟨(ad.add (i*5)).block,(ad.add (i*5)).off+1,none⟩=some (.int .i64 rows[i].1.size)∧w.cell? ⟨(ad.add (i*5)).block,(ad.add (i*5)).off+2,none⟩=some rows[i].2.1 ∧
    w.cell? ⟨(ad.add (i*5)).block,(ad.add (i*5)).off+3,none⟩=some rows[i].2.2.1∧w.cell? ⟨(ad.add (i*5)).block,(ad.add (i*5)).off+4,none⟩=some rows[i].2.2.2:=by
 obtain ⟨A',c',e,h1,h2,h3,h4⟩:=h
 injection e with e1 e2 e3
 subst e1
 obtain ⟨k0,k1,k2,k3,k4⟩:=zAH rows i hi
 obtain ⟨ad,ea,q0⟩:=h4 _ _ k0
 have off:∀ k,ad.add (i*5+(k+1))=⟨(ad.add (i*5)).block,(ad.add (i*5)).off+(k+1),none⟩:=fun k=>by
  rw [← zWJ]
  simp [Addr.add_add]
 have g:∀ k u,(kcs rows)[i*5+(k+1)]? = some u→w.cell? ⟨(ad.add (i*5)).block,(ad.add (i*5)).off+(k+1),none⟩=some u:=fun k u hu=>by
  obtain ⟨ad2,eb,q⟩:=h4 _ _ hu
  rw [ea] at eb
  injection eb with eb
  subst eb
  rwa [off k] at q
 exact ⟨ad,ea,q0,g 0 _ k1,g 1 _ k2,g 2 _ k3,g 3 _ k4⟩
def BadPost (l:Nat) (kids:List Tr) (w:World) (e:Ending) (w':World):Prop:=∃ x:Int,e=.returned (.int .i64 x)∧decide (0≤x) = !kids.all (rightB l)∧Grow w w'
theorem zYG {l:Nat} (ih:RightAt l) (hl:l≤1000) (rows:List (Tr×Value×Value×Value)) (A:Option Addr) (c:Nat) (w:World) (h:SliceR 5 (.slice A rows.length c) rows.length (kcs rows) w) (hr:∀ r,r∈rows→TrR w r.1 r.2.1 r.2.2.1 r.2.2.2) (hb:∀ r,r∈rows→TrB r.1) (hn:rows.length≤10000000)
    (G:Nat) (hG:w.heap[G]? = some (.cells #[.int .i64 ((l:Int)+1)] 3 (0,0))) :
    Calls Tryz.prog 276 #[.slice A rows.length c,.func (Fn.func 270) #[] #[.pointer (some ⟨G,0,none⟩)]] w (BadPost l (rows.map (·.1)) w):=by
 have H:=LH h
 have HR:=LH hr
 have HB:=LH hb
 have HG:=LH hG
 clear h hr hb hG
 go_enter Tryz.func276,Tryz.ntmps276
 go_wp2
 go_loopw [8] (fun v wr=>∃ k:Nat,k≤rows.length∧v=.int .i64 k∧Hid (Grow w wr∧((rows.map (·.1)).take k).all (rightB l)=true)) (fun v _=>rows.length-(intOf v).toNat)
 case atStart=>exact ⟨0,by omega,rfl,Keep.refl _ _,by simp⟩
 case round =>
  obtain ⟨k,hk,rfl,HS⟩:=hrel
  by_cases hlt:k<rows.length
  ·have hlt':(k:Int)<rows.length:=by omega
   have hw:IntKind.i64.wrap ((k:Int)+1)=(k:Int)+1:=IntWalk.i64_in _ (by omega)
   obtain ⟨ad,rfl,q0,q1,q2,q3,q4⟩:=znA (H.out.grow HS.out.1) k hlt
   have hT:=LH ((HR.out _ (List.getElem_mem hlt)).grow HS.out.1)
   have hTB:=LH (HB.out _ (List.getElem_mem hlt))
   obtain ⟨B1,d1,B2,d2,B3,d3,e1,e2,e3⟩:=hT.out.parts
   have hgk:=HS.out.1
   rw [e1] at q2
   rw [e2] at q3
   rw [e3] at q4
   have hR1:=zTF ih rows[k].1 _ _ _ wr hT.out hTB.out hl G (Grow.heap HS.out.1 HG.out)
   rw [e1,e2,e3] at hR1
   have HR1:=LH hR1
   have hget:((rows.map (·.1)).take (k+1)).all (rightB l)=(((rows.map (·.1)).take k).all (rightB l)&&rightB l rows[k].1):=by
    rw [List.take_succ_eq_append_getElem (by simpa using hlt),List.all_append]
    simp
   have Hget:=LH hget
   have Hmem:Hid (rightB l rows[k].1=false→(rows.map (·.1)).all (rightB l)=false):=LH (fun hf=>by
    rw [List.all_eq_false]
    exact ⟨rows[k].1,List.mem_map.2 ⟨_,List.getElem_mem hlt,rfl⟩,by simp [hf]⟩)
   clear hR1 hgk hget e1 e2 e3
   go_wp2_with fail
   refine HR1.out.mono ?_
   rintro e w2 ⟨rfl,hg⟩
   have HG2:=LH (HS.out.1.grow hg)
   clear hg
   cases hok:rightB l rows[k].1 with
   | false =>
    have Hall:=LH (Hmem.out hok)
    clear hok
    go_wp2
    go_ret
    exact ⟨k,rfl,by rw [Hall.out];simp,HG2.out⟩
   | true =>
    have Hall:Hid (((rows.map (·.1)).take (k+1)).all (rightB l)=true):=LH (by rw [Hget.out,HS.out.2,hok];rfl)
    clear hok
    go_wp2
    go_roundw
    case rel=>exact ⟨k+1,by omega,by go_num,HG2.out,Hall.out⟩
    case measure=>simp [intOf];omega
  ·obtain rfl:k=rows.length:=by omega
   have hlt':¬ ((rows.length:Int)<rows.length):=by omega
   have hall:=HS.out.2
   rw [List.take_of_length_le (by simp)] at hall
   have Hall:=LH hall
   clear hall
   go_wp2
   go_ret
   exact ⟨-1,rfl,by rw [Hall.out];rfl,HS.out.1⟩
theorem zLE {l:Nat} (ih:RightAt l) (hl:l≤1000) (rows:List (Tr×Value×Value×Value)) (A:Option Addr) (c:Nat) (w:World) (h:SliceR 5 (.slice A rows.length c) rows.length (kcs rows) w) (hr:∀ r,r∈rows→TrR w r.1 r.2.1 r.2.2.1 r.2.2.2) (hb:∀ r,r∈rows→TrB r.1) (hn:rows.length≤10000000)
    (G:Nat) (hG:w.heap[G]? = some (.cells #[.int .i64 ((l:Int)+1)] 3 (0,0))) :
    Calls Tryz.prog 269 #[.slice A rows.length c,.func (Fn.func 270) #[] #[.pointer (some ⟨G,0,none⟩)]] w fun e w'=>e=.returned (.bool (!(rows.map (·.1)).all (rightB l)))∧Grow w w':=by
 have HI:=LH (zYG ih hl rows A c w h hr hb hn G hG)
 clear h hr hb hn hG
 go_enter Tryz.func269,Tryz.ntmps269
 go_wp2_with fail
 refine HI.out.mono ?_
 rintro e w1 ⟨x,rfl,hx,hg⟩
 have Hx:=LH (And.intro hx hg)
 clear hx hg
 go_wp2
 go_ret
 exact ⟨by rw [← Hx.out.1];rfl,Hx.out.2⟩
theorem TrR.rows {w:World} {t:Tr} {vw vb vk:Value} (h:TrR w t vw vb vk):∃ rows,rows.map (·.1)=t.kids∧SliceR 5 vk rows.length (kcs rows) w∧∀ r,r∈rows→TrR w r.1 r.2.1 r.2.2.1 r.2.2.2:=by
 cases h with
 | mk rows hW hB hR hr=>exact ⟨rows,rfl,hR,hr⟩
theorem zUF (A:Option Addr) (n c:Nat) (hn:n=0) (fv:Value) (w:World):Calls Tryz.prog 269 #[.slice A n c,fv] w fun e w'=>e=.returned (.bool false)∧w=w':=by
 subst hn
 have hI:Calls Tryz.prog 276 #[.slice A 0 c,fv] w fun e w'=>e=.returned (.int .i64 (-1))∧w=w':=by
  go_enter Tryz.func276,Tryz.ntmps276
  go_wp2
  go_loopw [8] (fun v wr=>wr=w∧v=.int .i64 0) (fun v _=>0)
  case atStart=>exact ⟨rfl,rfl⟩
  case round =>
   obtain ⟨rfl,rfl⟩:=hrel
   go_wp2
   go_ret
   exact ⟨rfl,rfl⟩
 have HI:=LH hI
 clear hI
 go_enter Tryz.func269,Tryz.ntmps269
 go_wp2_with fail
 refine HI.out.mono ?_
 rintro e w' ⟨rfl,rfl⟩
 go_wp2
 go_ret
 exact ⟨rfl,rfl⟩
theorem zWH:RightAt 0:=by
 intro t vw vb vk w h hb
 obtain ⟨A1,c1,A2,c2,A3,c3,rfl,rfl,rfl⟩:=h.parts
 have bw:=hb.w
 have bb:=hb.b
 have bk:=hb.k
 have hd:=zU w (.cells #[.int .i64 t.kind,.int .i64 t.size,.slice A1 t.ws.length c1,.slice A2 t.bs.length c2,.slice A3 t.kids.length c3] 114) (.cells #[.int .i64 0] 3)
 have HN:=LH hd.1
 have HL:=LH hd.2.1
 have HG:=LH hd.2.2
 clear h hb hd
 go_enter Tryz.func245,Tryz.ntmps245
 go_wp2_with fail
 refine (zbE t.kind t.size A1 A2 A3 _ _ _ c1 c2 c3 _ bw bb bk).mono ?_
 rintro e w1 ⟨rfl,hg⟩
 replace HN:=LH (hg.heap HN.out)
 replace HL:=LH (hg.heap HL.out)
 replace HG:=LH (HG.out.grow hg)
 clear hg
 obtain ⟨n0,n1,n2,n3,n4,nf⟩:=zA HN.out
 have l0:=cell0 HL.out
 cases ho:ownB t.kind t.size t.ws.length t.bs.length t.kids.length with
 | false =>
  have E:Hid (rightB 0 t=false):=LH (by simp [rightB,ownT,ho])
  clear ho
  go_wp2
  go_ret
  exact ⟨by rw [E.out];rfl,HG.out⟩
 | true =>
  have E:Hid (rightB 0 t=(t.kind==0)):=LH (by simp [rightB,ownT,ho])
  by_cases hk:t.kind=0
  ·have E2:Hid (t.kids=[]):=LH (zSF ho hk)
   have E3:Hid (rightB 0 t=true):=LH (by rw [E.out];simp [hk])
   have kb:(t.kind != 0)=false:=by simp [hk]
   have hlen:t.kids.length=0:=by rw [E2.out];rfl
   have Hlen:=LH hlen
   clear ho hk hlen
   go_wp2_with fail
   refine (zUF A3 _ c3 Hlen.out _ w1).mono ?_
   rintro e w' ⟨rfl,rfl⟩
   go_wp2
   go_ret
   exact ⟨by rw [E3.out];rfl,HG.out⟩
  ·have E3:Hid (rightB 0 t=false):=LH (by rw [E.out];simp [hk])
   have kb:(t.kind != 0)=true:=by simp [hk]
   clear ho hk
   go_wp2
   go_ret
   exact ⟨by rw [E3.out];rfl,HG.out⟩
theorem zXH {l:Nat} (ih:RightAt l) (hl:l≤1000):RightAt (l+1):=by
 intro t vw vb vk w h hb
 obtain ⟨A1,c1,A2,c2,A3,c3,rfl,rfl,rfl⟩:=h.parts
 have bw:=hb.w
 have bb:=hb.b
 have bk:=hb.k
 have HT:=LH h
 have HB:=LH hb
 have hd:=zU w (.cells #[.int .i64 t.kind,.int .i64 t.size,.slice A1 t.ws.length c1,.slice A2 t.bs.length c2,.slice A3 t.kids.length c3] 114) (.cells #[.int .i64 ((l:Int)+1)] 3)
 have HN:=LH hd.1
 have HL:=LH hd.2.1
 have HG:=LH hd.2.2
 clear h hb hd
 go_enter Tryz.func245,Tryz.ntmps245
 go_wp2_with fail
 refine (zbE t.kind t.size A1 A2 A3 _ _ _ c1 c2 c3 _ bw bb bk).mono ?_
 rintro e w1 ⟨rfl,hg⟩
 replace HN:=LH (hg.heap HN.out)
 replace HL:=LH (hg.heap HL.out)
 replace HG:=LH (HG.out.grow hg)
 clear hg
 obtain ⟨n0,n1,n2,n3,n4,nf⟩:=zA HN.out
 have l0:=cell0 HL.out
 cases ho:ownB t.kind t.size t.ws.length t.bs.length t.kids.length with
 | false =>
  have E:Hid (rightB (l+1) t=false):=LH (by simp [rightB,ownT,ho])
  clear ho
  go_wp2
  go_ret
  exact ⟨by rw [E.out];rfl,HG.out⟩
 | true =>
  have E:Hid (rightB (l+1) t=t.kids.all (rightB l)):=LH (by simp [rightB,ownT,ho])
  have hl1:((l:Int)+1==0)=false:=beq_eq_false_iff_ne.2 (by omega)
  obtain ⟨rows,hrk,hrow,hrr⟩:=(HT.out.grow HG.out).rows
  have hlen:t.kids.length=rows.length:=by rw [← hrk,List.length_map]
  have hbr:∀ r,r∈rows→TrB r.1:=fun r hr=>HB.out.r _ (by rw [← hrk];exact List.mem_map_of_mem hr)
  have HC:=zLE ih hl rows A3 c3 w1 (by rw [← hlen];exact hlen ▸ hrow) hrr hbr (by omega) (w.heap.size+1) HL.out
  rw [hrk,← hlen] at HC
  have HCC:=LH HC
  clear ho hrk hrow hrr hlen hbr HC
  by_cases hk:t.kind=0
  ·have kb:(t.kind != 0)=false:=by simp [hk]
   clear hk
   go_wp2_with fail
   refine HCC.out.mono ?_
   rintro e w2 ⟨rfl,hg⟩
   have HG2:=LH (HG.out.grow hg)
   clear hg
   go_wp2
   go_ret
   exact ⟨by rw [E.out];simp,HG2.out⟩
  ·have kb:(t.kind != 0)=true:=by simp [hk]
   clear hk
   go_wp2_with fail
   refine HCC.out.mono ?_
   rintro e w2 ⟨rfl,hg⟩
   have HG2:=LH (HG.out.grow hg)
   clear hg
   go_wp2
   go_ret
   exact ⟨by rw [E.out];simp,HG2.out⟩
theorem zVF:∀ l:Nat,l≤1001→RightAt l
 | 0,_=>zWH
 | l+1,h=>zXH (zVF l (by omega)) (by omega)
theorem zZG (t:Tr) (vw vb vk:Value) (w:World) (h:TrR w t vw vb vk) (hb:TrB t) :
    Calls Tryz.prog 202 #[.agg #[.int .i64 t.kind,.int .i64 t.size,vw,vb,vk]] w fun e w'=>e=.returned (.bool (rightB 32 t))∧Grow w w':=by
 obtain ⟨A1,c1,A2,c2,A3,c3,rfl,rfl,rfl⟩:=h.parts
 have hg1:=(Keep.refl NoB w).alloc (.cells #[.int .i64 t.kind,.int .i64 t.size,.slice A1 t.ws.length c1,.slice A2 t.bs.length c2,.slice A3 t.kids.length c3] 114)
 have HG:=LH hg1
 have HR:=LH (zVF 32 (by omega) t _ _ _ _ (h.grow hg1) hb)
 clear h hb hg1
 go_enter Tryz.func202,Tryz.ntmps202
 go_wp2_with fail
 refine HR.out.mono ?_
 rintro e w1 ⟨rfl,hg⟩
 have HG2:=LH (HG.out.grow hg)
 clear hg
 go_wp2
 go_ret
 exact ⟨rfl,HG2.out⟩
end Go.Proofs.YtfkcpaahdlkcdaaGreat
namespace Go.Proofs.YtfkcpaahdlkcdaaGreat
open Go.RowKit
structure ObIn (o:Ob):Prop where
 ok:ObOk o
 at0:0≤o.at_
 cases:o=ob0∨(o.kind=1∧o.size=0∧o.count=0∧o.at_+o.data+o.ptrs≤100000) ∨
  (o.kind=2∧o.data=0∧o.ptrs=0∧((o.size=2∧o.at_+(o.count+7)/8≤100000)∨(o.size=5∧o.at_+o.count≤100000)∨(o.size=6∧o.at_+o.count≤100000)))
structure PtSh (p:Pt):Prop where
 z:p.kind=0→p=pt0
 s:p.kind=1→p.size=0∧p.count=0
 l:p.kind=2→p.data=0∧p.ptrs=0
theorem zcE (x:Int):PtSh (ptrDec x).1:=by
 unfold ptrDec
 split
 ·constructor <;> simp [pt0]
 split
 ·constructor <;> simp
 split
 ·constructor <;> simp
 split
 ·constructor <;> simp
 ·constructor <;> simp [pt0]
theorem zWF (wd:Int→Int→Int×Int) (seg at_:Int):PtSh (ptrAt wd seg at_).1:=by
 unfold ptrAt
 split
 ·exact zcE _
 ·constructor <;> simp [pt0]
theorem zBB:ObIn ob0:=⟨zLI,by simp [ob0],.inl rfl⟩
theorem zhC {sz:List Int} (hs:∀ x∈sz,0≤x∧x≤100000) {p:Pt} (hp:PtOk p) (hsh:PtSh p) (hn:isNear p=true) (seg at_:Int):ObIn (foundP sz p seg at_).1:=by
 unfold foundP
 split
 ·rename_i he
  split
  ·rename_i hw
   unfold withinB at hw
   simp only [decide_eq_true_eq] at hw
   obtain ⟨h1,h2,h3,h4,h5⟩:=hw
   have h6:sz.getD seg.toNat 0≤100000:=by
    have hk:seg.toNat<sz.length:=by omega
    rw [List.getD_eq_getElem?_getD,List.getElem?_eq_getElem hk]
    exact (hs _ (List.getElem_mem hk)).2
   refine ⟨zsA hp seg at_,h3,.inr ?_⟩
   have hd:=hp.d
   have hq:=hp.q
   have hc:=hp.c
   have h7:at_+(ptrWords (obP (obOf p seg at_))).1≤100000:=by omega
   clear h5 h6
   simp only [isNear,Bool.or_eq_true,beq_iff_eq] at hn
   rcases hn with hk | hk
   ·left
    have:=hsh.s hk
    have hpw:(ptrWords (obP (obOf p seg at_))).1=p.data+p.ptrs:=by simp [ptrWords,obP,obOf,hk]
    exact ⟨hk,this.1,this.2,by simp only [obOf];omega⟩
   ·right
    have:=hsh.l hk
    refine ⟨hk,this.1,this.2,?_⟩
    by_cases s2:p.size=2
    ·have hpw:(ptrWords (obP (obOf p seg at_))).1=(p.count+7)/8:=by simp [ptrWords,obP,obOf,hk,s2]
     exact .inl ⟨s2,by simp only [obOf];omega⟩
    by_cases s5:p.size=5
    ·have hpw:(ptrWords (obP (obOf p seg at_))).1=p.count:=by simp [ptrWords,obP,obOf,hk,s5]
     exact .inr (.inl ⟨s5,by simp only [obOf];omega⟩)
    by_cases s6:p.size=6
    ·have hpw:(ptrWords (obP (obOf p seg at_))).1=p.count:=by simp [ptrWords,obP,obOf,hk,s6]
     exact .inr (.inr ⟨s6,by simp only [obOf];omega⟩)
    ·simp [ptrWords,obP,obOf,hk,s2,s5,s6] at he
  ·exact zBB
 ·exact zBB
theorem zn {sz : List Int} {wd : Int → Int → Int × Int} (h : SouOk sz wd) (seg at_ : Int) : ObIn (followP sz wd seg at_).1 := by
 unfold followP
 split
 ·split
  ·rename_i hn
   exact zhC h.sz (zSB h seg at_) (zWF wd seg at_) hn _ _
  ·split
   ·unfold twiceP
    split
    ·split
     ·split
      ·split
       ·split
        ·rename_i hc
         exact zhC h.sz (zZB _ (h.val _ _).1) (zcE _) hc.2.2.1 _ _
        ·exact zBB
       ·exact zBB
      ·exact zBB
     ·exact zBB
    ·exact zBB
   ·unfold landedP
    split
    ·split
     ·rename_i hn
      exact zhC h.sz (zSB h _ _) (zWF wd _ _) hn _ _
     ·exact zBB
    ·exact zBB
 ·exact zBB
theorem zv {o:Ob} (h:ObIn o):0≤obWords o∧obWords o≤200000:=by
 have hd:=h.ok.d
 have hq:=h.ok.q
 have hc:=h.ok.c
 have ha:=h.at0
 rcases h.cases with rfl | ⟨hk,hs,h2,h3⟩ | ⟨hk,h1,h2,h3⟩
 ·simp [obWords,ptrWords,obP,ob0]
 ·simp [obWords,ptrWords,obP,hk];omega
 ·rcases h3 with ⟨s,h3⟩ | ⟨s,h3⟩ | ⟨s,h3⟩
  ·simp [obWords,ptrWords,obP,hk,s];omega
  ·simp [obWords,ptrWords,obP,hk,s];omega
  ·simp [obWords,ptrWords,obP,hk,s];omega
def kidsK (f:Int→Int→Tr×Int×Int) (at0 paid0:Int):Nat→List Tr×Int×Int
 | 0=>([],0,paid0)
 | k + 1 => if (kidsK f at0 paid0 k).2.1 = 0 then
     (if (f (at0+k) (kidsK f at0 paid0 k).2.2).2.1=0 then ((kidsK f at0 paid0 k).1++[(f (at0+k) (kidsK f at0 paid0 k).2.2).1],0,(f (at0+k) (kidsK f at0 paid0 k).2.2).2.2)
      else ([],(f (at0+k) (kidsK f at0 paid0 k).2.2).2.1,(f (at0+k) (kidsK f at0 paid0 k).2.2).2.2))
     else kidsK f at0 paid0 k
theorem ziC (f:Int→Int→Tr×Int×Int) (at0 paid0:Int) {k n:Nat} (h:(kidsK f at0 paid0 k).2.1≠0) (hn:k≤n):kidsK f at0 paid0 n=kidsK f at0 paid0 k:=by
 induction n with
 | zero => obtain rfl : k = 0 := by omega
           rfl
 | succ n ih =>
  by_cases hk:k≤n
  ·have:=ih hk
   simp only [kidsK]
   rw [this,if_neg h]
  ·obtain rfl:k=n+1:=by omega
   rfl
def nodeT (wd:Int→Int→Int×Int) (f:Int→Int→Int→Tr×Int×Int) (o:Ob) (p:Int):Tr×Int×Int :=
 if (kidsK (f o.seg) (if o.size=6 then o.at_ else o.at_+o.data) p (if o.size=6 then o.count else o.ptrs).toNat).2.1=0 then
  (.mk o.kind o.size (wordsP wd o.seg o.at_ (if o.size=5 then o.count else o.data).toNat) (if o.size=2 then bytesP wd o.seg o.at_ o.count.toNat else [])
   (kidsK (f o.seg) (if o.size=6 then o.at_ else o.at_+o.data) p (if o.size=6 then o.count else o.ptrs).toNat).1,0,(kidsK (f o.seg) (if o.size=6 then o.at_ else o.at_+o.data) p (if o.size=6 then o.count else o.ptrs).toNat).2.2)
 else (tr0,(kidsK (f o.seg) (if o.size=6 then o.at_ else o.at_+o.data) p (if o.size=6 then o.count else o.ptrs).toNat).2.1,(kidsK (f o.seg) (if o.size=6 then o.at_ else o.at_+o.data) p (if o.size=6 then o.count else o.ptrs).toNat).2.2)
def nodeS (sz:List Int) (wd:Int→Int→Int×Int) (last:Bool) (f:Int→Int→Int→Tr×Int×Int) (seg at_ paid:Int):Tr×Int×Int :=
 if (followP sz wd seg at_).2=0 then
  if (followP sz wd seg at_).1.kind≠0∧last=true then (tr0,21,paid+(1+obWords (followP sz wd seg at_).1))
  else if 8192<paid+(1+obWords (followP sz wd seg at_).1) then (tr0,22,paid+(1+obWords (followP sz wd seg at_).1))
  else nodeT wd f (followP sz wd seg at_).1 (paid+(1+obWords (followP sz wd seg at_).1))
 else (tr0,(followP sz wd seg at_).2,paid)
def nodeP (sz:List Int) (wd:Int→Int→Int×Int):Nat→Int→Int→Int→Tr×Int×Int
 | 0=>nodeS sz wd true (fun _ _ _=>(tr0,0,0))
 | l+1=>nodeS sz wd false (nodeP sz wd l)
structure NS (W0 w:World) (D N O:Nat) (sv:Value) (paid:Int) (a0 a1 a2 a3 a4:Value) (o:Ob) (c:World):Prop where
 dec:Dec D sv paid c
 nod:c.heap[N]? = some (.cells #[a0,a1,a2,a3,a4] 114 (0,0))
 obj:c.heap[O]? = some (.cells #[.int .i64 o.kind,.int .i64 o.seg,.int .i64 o.at_,.int .i64 o.data,.int .i64 o.ptrs,.int .i64 o.size,.int .i64 o.count] 257 (0,0))
 keep:Keep (fun k=>k=D) w c
 base:Grow W0 c
 lo:W0.heap.size≤D∧D<w.heap.size∧w.heap.size≤N∧N<O
namespace NS
variable {W0 w:World} {D N O:Nat} {sv:Value} {paid:Int} {a0 a1 a2 a3 a4:Value} {o:Ob} {c c':World}
theorem grow (h:NS W0 w D N O sv paid a0 a1 a2 a3 a4 o c) (hg:Grow c c'):NS W0 w D N O sv paid a0 a1 a2 a3 a4 o c' :=
 ⟨h.dec.grow hg,hg.heap h.nod,hg.heap h.obj,h.keep.grow hg,h.base.grow hg,h.lo⟩
theorem drew (h:NS W0 w D N O sv paid a0 a1 a2 a3 a4 o c):NS W0 w D N O sv paid a0 a1 a2 a3 a4 o c.drew:=h.grow (Keep.refl NoB c).drew
theorem call (h:NS W0 w D N O sv paid a0 a1 a2 a3 a4 o c) {paid':Int} (hd:Dec D sv paid' c') (hk:Keep (fun k=>k=D) c c'):NS W0 w D N O sv paid' a0 a1 a2 a3 a4 o c':=by
 obtain ⟨l1,l2,l3,l4⟩:=h.lo
 have b1:N<c.heap.size:=(gE h.nod).1
 have b2:O<c.heap.size:=(gE h.obj).1
 exact ⟨hd,(hk.block _ b1 (by omega)).trans h.nod,(hk.block _ b2 (by omega)).trans h.obj,h.keep.trans hk (fun i hi=>.inl hi),
  ((h.base.mono (fun _ h=>h.elim)).trans hk (fun i hi=>.inl hi):Keep (fun k=>k=D) W0 c').new (fun i hi=>by omega),h.lo⟩
theorem pay (h:NS W0 w D N O sv paid a0 a1 a2 a3 a4 o c) (p:Int):NS W0 w D N O sv p a0 a1 a2 a3 a4 o (c.setCell ⟨D,1,none⟩ (.int .i64 p)):=by
 refine h.call ?_ ((Keep.refl (fun k=>k=D) c).setCell (.inl rfl) _)
 have:=h.dec
 unfold Dec at this ⊢
 simp only [World.setCell,Array.getElem?_modify]
 simp [this]
theorem put (h:NS W0 w D N O sv paid a0 a1 a2 a3 a4 o c) (i:Nat) (v b0 b1 b2 b3 b4:Value) (hi:i<5) (hs:(#[a0,a1,a2,a3,a4]:Array Value).setIfInBounds i v=#[b0,b1,b2,b3,b4]):NS W0 w D N O sv paid b0 b1 b2 b3 b4 o (c.setCell ⟨N,i,none⟩ v):=by
 obtain ⟨l1,l2,l3,l4⟩:=h.lo
 refine ⟨(zm (p:=⟨N,i,none⟩) v (by simp;omega)).trans h.dec,?_,(zm (p:=⟨N,i,none⟩) v (by simp;omega)).trans h.obj,h.keep.setCell (p:=⟨N,i,none⟩) (.inr l3) _,h.base.setCell (p:=⟨N,i,none⟩) (.inr (by simp;omega)) _,h.lo⟩
 rw [← hs]
 simp only [World.setCell,Array.getElem?_modify]
 simp [h.nod]
theorem all (h:NS W0 w D N O sv paid a0 a1 a2 a3 a4 o c) (b0 b1 b2 b3 b4:Value):NS W0 w D N O sv paid b0 b1 b2 b3 b4 o (((((c.setCell ⟨N,0,none⟩ b0).setCell ⟨N,1,none⟩ b1).setCell ⟨N,2,none⟩ b2).setCell ⟨N,3,none⟩ b3).setCell ⟨N,4,none⟩ b4) :=
 ((((h.put 0 b0 _ _ _ _ _ (by omega) rfl).put 1 b1 _ _ _ _ _ (by omega) rfl).put 2 b2 _ _ _ _ _ (by omega) rfl).put 3 b3 _ _ _ _ _ (by omega) rfl).put 4 b4 _ _ _ _ _ (by omega) rfl
end NS
end Go.Proofs.YtfkcpaahdlkcdaaGreat
namespace Go.Proofs.YtfkcpaahdlkcdaaGreat
open Go.RowKit
def NPost (r:Tr×Int×Int) (D:Nat) (sv:Value) (w:World) (e:Ending) (w':World):Prop :=
 ∃ vw vb vk,e=.returned (.tuple #[.agg #[.int .i64 r.1.kind,.int .i64 r.1.size,vw,vb,vk],.int .u16 r.2.1])∧Dec D sv r.2.2 w'∧Keep (fun k=>k=D) w w' ∧
  Foot (fun u=>TrR u r.1 vw vb vk) w' (fun k=>w.heap.size≤k∧k<w'.heap.size)∧TrB r.1
def NodeAt (sz:List Int) (wd:Int→Int→Int×Int) (l:Nat):Prop :=
 ∀ (sv:Value) (W0:World) (D:Nat) (paid seg at_:Int) (w:World),Sou sv sz wd W0→Dec D sv paid w→W0.heap.size≤D→Grow W0 w→0≤paid→paid≤8192 →
  Calls Tryz.prog 244 #[.pointer (some ⟨D,0,none⟩),.int .i64 seg,.int .i64 at_,.int .i64 l] w (NPost (nodeP sz wd l seg at_ paid) D sv w)
theorem tr0_b:TrB tr0:=.mk (by simp) (by simp) (by simp) (fun t h=>by cases h)
theorem zg {D N O:Nat} {sv:Value} {paid:Int} {W0 w c:World} {o:Ob} {r:Tr×Int×Int} {er:Int} (h:NS W0 w D N O sv paid (.int .i64 0) (.int .i64 0) (.slice none 0 0) (.slice none 0 0) (.slice none 0 0) o c) (hr:r=(tr0,er,paid)) :
    NPost r D sv w (.returned (.tuple #[.agg #[.int .i64 0,.int .i64 0,.slice none 0 0,.slice none 0 0,.slice none 0 0],.int .u16 er])) c:=by
 subst hr
 exact ⟨_,_,_,rfl,h.dec,h.keep,⟨fun k hk=>hk.2,fun W' _=>TrR.nil W' 0 0⟩,tr0_b⟩
theorem zTB {sv:Value} {W0:World} {D:Nat} {paid:Int} {w w1:World} {o:Ob} (hD:Dec D sv paid w) (hD0:W0.heap.size≤D) (hg:Grow W0 w) (hg1:Grow (w.alloc (.cells #[.int .i64 0,.int .i64 0,.slice none 0 0,.slice none 0 0,.slice none 0 0] 114)) w1) :
    NS W0 w D w.heap.size w1.heap.size sv paid (.int .i64 0) (.int .i64 0) (.slice none 0 0) (.slice none 0 0) (.slice none 0 0) o (w1.alloc (.cells #[.int .i64 o.kind,.int .i64 o.seg,.int .i64 o.at_,.int .i64 o.data,.int .i64 o.ptrs,.int .i64 o.size,.int .i64 o.count] 257)):=by
 have g1:=(Keep.refl NoB w).alloc (.cells #[.int .i64 0,.int .i64 0,.slice none 0 0,.slice none 0 0,.slice none 0 0] 114)
 have hn:=Grow.heap hg1 (heap_alloc_new w (.cells #[.int .i64 0,.int .i64 0,.slice none 0 0,.slice none 0 0,.slice none 0 0] 114))
 have hsz:=hg1.size
 have g2:=(Keep.refl NoB w1).alloc (.cells #[.int .i64 o.kind,.int .i64 o.seg,.int .i64 o.at_,.int .i64 o.data,.int .i64 o.ptrs,.int .i64 o.size,.int .i64 o.count] 257)
 have hlt:=hD.lt
 have g3:=(g1.grow hg1).grow g2
 simp at hsz
 exact ⟨((hD.grow g1).grow hg1).grow g2,Grow.heap g2 hn,heap_alloc_new w1 _,g3.mono (fun _ h=>h.elim),hg.grow g3,hD0,hlt,Nat.le_refl _,by omega⟩
theorem zMB {f:Int→Int→Tr×Int×Int} (hf:∀ a p,0≤p→p≤8192→(f a p).2.1=0→0≤(f a p).2.2∧(f a p).2.2≤8192) {at0 p0:Int} (h0:0≤p0) (h1:p0≤8192):∀ k,(kidsK f at0 p0 k).2.1=0→0≤(kidsK f at0 p0 k).2.2∧(kidsK f at0 p0 k).2.2≤8192
 | 0,_=>⟨h0,h1⟩
 | k + 1, h => by
  have ih:=zMB (at0:=at0) hf h0 h1 k
  simp only [kidsK] at h ⊢
  by_cases hk:(kidsK f at0 p0 k).2.1=0
  ·rw [if_pos hk] at h ⊢
   obtain ⟨i0,i1⟩:=ih hk
   by_cases hr:(f (at0+k) (kidsK f at0 p0 k).2.2).2.1=0
   ·rw [if_pos hr]
    exact hf _ _ i0 i1 hr
   ·rw [if_neg hr] at h
    exact absurd h hr
  ·rw [if_neg hk] at h
   exact absurd h hk
theorem zpD {sz:List Int} {wd:Int→Int→Int×Int} (ho:SouOk sz wd) (last:Bool) {f:Int→Int→Int→Tr×Int×Int} (hf:∀ s a p,0≤p→p≤8192→(f s a p).2.1=0→0≤(f s a p).2.2∧(f s a p).2.2≤8192) (seg at_ p:Int) (h0:0≤p) (h1:p≤8192)
    (h:(nodeS sz wd last f seg at_ p).2.1=0):0≤(nodeS sz wd last f seg at_ p).2.2∧(nodeS sz wd last f seg at_ p).2.2≤8192:=by
 have how:=(zv (zn ho seg at_)).1
 unfold nodeS at h ⊢
 by_cases c1:(followP sz wd seg at_).2=0
 ·rw [if_pos c1] at h ⊢
  by_cases c2:(followP sz wd seg at_).1.kind≠0∧last=true
  ·rw [if_pos c2] at h
   simp at h
  ·rw [if_neg c2] at h ⊢
   by_cases c3:8192<p+(1+obWords (followP sz wd seg at_).1)
   ·rw [if_pos c3] at h
    simp at h
   ·rw [if_neg c3] at h ⊢
    unfold nodeT at h ⊢
    have hk:=zMB (hf (followP sz wd seg at_).1.seg) (at0:=if (followP sz wd seg at_).1.size=6 then (followP sz wd seg at_).1.at_ else (followP sz wd seg at_).1.at_+(followP sz wd seg at_).1.data) (p0:=p+(1+obWords (followP sz wd seg at_).1)) (by omega) (by omega) (if (followP sz wd seg at_).1.size=6 then (followP sz wd seg at_).1.count else (followP sz wd seg at_).1.ptrs).toNat
    generalize kidsK _ _ _ _=q at h hk ⊢
    by_cases c4:q.2.1=0
    ·rw [if_pos c4]
     exact hk c4
    ·rw [if_neg c4] at h
     exact absurd h c4
 ·rw [if_neg c1] at h
  exact absurd h c1
theorem zfB {sz:List Int} {wd:Int→Int→Int×Int} (ho:SouOk sz wd):∀ (l:Nat) (seg at_ p:Int),0≤p→p≤8192→(nodeP sz wd l seg at_ p).2.1=0→0≤(nodeP sz wd l seg at_ p).2.2∧(nodeP sz wd l seg at_ p).2.2≤8192
 | 0,seg,at_,p,h0,h1,h=>zpD ho true (fun _ _ _ _ _ _=>by simp) seg at_ p h0 h1 h
 | l+1,seg,at_,p,h0,h1,h=>zpD ho false (zfB ho l) seg at_ p h0 h1 h
def FO (O:Nat) (v:Value) (c:World):Nat→Prop:=fun j=>O<j∧j<c.heap.size∧v.ownBlock≠some j
structure KL (W0 w:World) (D N O:Nat) (sv:Value) (o:Ob) (f:Int→Int→Tr×Int×Int) (at0 p0:Int) (ws bs:List Int) (vw vb:Value) (k:Nat) (v:Value) (rows:List (Tr×Value×Value×Value)) (c:World):Prop where
 ns:NS W0 w D N O sv (kidsK f at0 p0 k).2.2 (.int .i64 o.kind) (.int .i64 o.size) vw vb v o c
 ok:(kidsK f at0 p0 k).2.1=0
 kids:rows.map (·.1)=(kidsK f at0 p0 k).1
 len:rows.length=k
 own:c.ownsRow (O+1) 114 5 v k (kcs rows)
 foot:Foot (fun u=>SliceR 1 vw ws.length (u64s ws) u∧SliceR 1 vb bs.length (u8s bs) u∧∀ r,r∈rows→TrR u r.1 r.2.1 r.2.2.1 r.2.2.2) c (FO O v c)
 trb:∀ r,r∈rows→TrB r.1
theorem KL.begin {W0 w:World} {D N O:Nat} {sv:Value} {o:Ob} {f:Int→Int→Tr×Int×Int} {at0 p0:Int} {ws bs:List Int} {vw vb:Value} {c:World}
    (hn:NS W0 w D N O sv p0 (.int .i64 o.kind) (.int .i64 o.size) vw vb (.slice none 0 0) o c) (hw:c.ownsRow (O+1) 22 1 vw ws.length (u64s ws)) (hb:c.ownsRow (O+1) 5 1 vb bs.length (u8s bs)) :
    KL W0 w D N O sv o f at0 p0 ws bs vw vb 0 (.slice none 0 0) [] c:=by
 refine ⟨hn,rfl,rfl,rfl,World.ownsRow_nil _ _ _ _,?_,fun r h=>by cases h⟩
 have f1:=Foot.of_own hw
 have f2:=Foot.of_own hb
 refine ((f1.and f2).imp (fun u h=>⟨h.1,h.2,fun r hr=>by cases hr⟩)).mono (fun j hj=>hj.2.1) (fun j hj=>?_)
 rcases hj with hj | hj
 ·exact ⟨(hw.lt j hj).1,(hw.lt j hj).2,by simp [Value.ownBlock]⟩
 ·exact ⟨(hb.lt j hj).1,(hb.lt j hj).2,by simp [Value.ownBlock]⟩
structure KM (W0 w:World) (D N O:Nat) (sv:Value) (o:Ob) (paid:Int) (ws bs:List Int) (vw vb:Value) (k:Nat) (v:Value) (rows:List (Tr×Value×Value×Value)) (kid:Tr×Value×Value×Value) (c:World):Prop where
 ns:NS W0 w D N O sv paid (.int .i64 o.kind) (.int .i64 o.size) vw vb v o c
 own:c.ownsRow (O+1) 114 5 v k (kcs rows)
 foot:Foot (fun u=>SliceR 1 vw ws.length (u64s ws) u∧SliceR 1 vb bs.length (u8s bs) u∧∀ r,r∈rows++[kid]→TrR u r.1 r.2.1 r.2.2.1 r.2.2.2) c (FO O v c)
theorem KM.grow {W0 w:World} {D N O:Nat} {sv:Value} {o:Ob} {paid:Int} {ws bs:List Int} {vw vb:Value} {k:Nat} {v:Value} {rows:List (Tr×Value×Value×Value)} {kid:Tr×Value×Value×Value} {c c':World}
    (h:KM W0 w D N O sv o paid ws bs vw vb k v rows kid c) (hg:Grow c c'):KM W0 w D N O sv o paid ws bs vw vb k v rows kid c' :=
 ⟨h.ns.grow hg,zE h.own hg (fun _ _ h=>h),(h.foot.grow hg).mono (fun j hj=>hj.2.1) (fun j hj=>⟨hj.1,Nat.lt_of_lt_of_le hj.2.1 hg.size,hj.2.2⟩)⟩
theorem KL.called {W0 w:World} {D N O:Nat} {sv:Value} {o:Ob} {f:Int→Int→Tr×Int×Int} {at0 p0:Int} {ws bs:List Int} {vw vb:Value} {k:Nat} {v:Value} {rows:List (Tr×Value×Value×Value)} {c c':World}
    (h:KL W0 w D N O sv o f at0 p0 ws bs vw vb k v rows c) {paid:Int} {t:Tr} {xw xb xk:Value} (hd:Dec D sv paid c') (hk:Keep (fun k=>k=D) c c') (hf:Foot (fun u=>TrR u t xw xb xk) c' (fun j=>c.heap.size≤j∧j<c'.heap.size)) :
    KM W0 w D N O sv o paid ws bs vw vb k v rows (t,xw,xb,xk) c':=by
 obtain ⟨l1,l2,l3,l4⟩:=h.ns.lo
 have bO:O<c.heap.size:=(gE h.ns.obj).1
 refine ⟨h.ns.call hd hk,zE h.own hk (fun j hj e=>by have:=(h.own.lt j hj).1;omega),?_⟩
 have f1:=h.foot.keep hk (fun j hj e=>by have:=hj.1;omega)
 refine ((f1.and hf).imp (fun u hu=>⟨hu.1.1,hu.1.2.1,fun r hr=>by
  rcases List.mem_append.1 hr with e | e
  ·exact hu.1.2.2 r e
  ·rw [List.mem_singleton.1 e];exact hu.2⟩)).mono (fun j hj=>hj.2.1) (fun j hj=>?_)
 rcases hj with hj | hj
 ·exact ⟨hj.1,Nat.lt_of_lt_of_le hj.2.1 hk.size,hj.2.2⟩
 ·exact ⟨by omega,hj.2,fun e=>by have:=(h.own.lt j e).2;omega⟩
theorem KM.appended {W0 w:World} {D N O:Nat} {sv:Value} {o:Ob} {f:Int→Int→Tr×Int×Int} {at0 p0:Int} {ws bs:List Int} {vw vb:Value} {k:Nat} {v v4:Value} {rows:List (Tr×Value×Value×Value)} {kid:Tr×Value×Value×Value} {c c4:World} {q:Prop}
    (h:KM W0 w D N O sv o (kidsK f at0 p0 (k+1)).2.2 ws bs vw vb k v rows kid c) (hap:Apped (O+1) 114 5 v v4 (k+1) (kcs rows++[.int .i64 kid.1.kind,.int .i64 kid.1.size,kid.2.1,kid.2.2.1,kid.2.2.2]) c c4 q)
    (hok:(kidsK f at0 p0 (k+1)).2.1=0) (hkids:(rows++[kid]).map (·.1)=(kidsK f at0 p0 (k+1)).1) (hlen:rows.length=k) (htrb:∀ r,r∈rows++[kid]→TrB r.1) :
    KL W0 w D N O sv o f at0 p0 ws bs vw vb (k+1) v4 (rows++[kid]) (c4.setCell ⟨N,4,none⟩ v4)∧NS W0 w D N O sv (kidsK f at0 p0 (k+1)).2.2 (.int .i64 o.kind) (.int .i64 o.size) vw vb v o c4:=by
 obtain ⟨l1,l2,l3,l4⟩:=h.ns.lo
 have bN:N<c.heap.size:=(gE h.ns.nod).1
 have bO:O<c.heap.size:=(gE h.ns.obj).1
 have hv:∀ j,v.ownBlock=some j→O<j:=fun j hj=>(h.own.lt j hj).1
 have hk:Keep (fun j=>v.ownBlock=some j) c c4:=(Keep.refl _ c).grown hap.grew (fun j hj=>.inl hj)
 have hns:NS W0 w D N O sv (kidsK f at0 p0 (k+1)).2.2 (.int .i64 o.kind) (.int .i64 o.size) vw vb v o c4 :=
  ⟨(hk.block _ h.ns.dec.lt (fun e=>by have:=hv _ e;omega)).trans h.ns.dec,(hk.block _ bN (fun e=>by have:=hv _ e;omega)).trans h.ns.nod,(hk.block _ bO (fun e=>by have:=hv _ e;omega)).trans h.ns.obj,
   h.ns.keep.trans hk (fun j hj=>.inr (by have:=hv _ hj;omega)),((h.ns.base.mono (fun _ h=>h.elim)).trans hk (fun j hj=>.inl hj):Keep (fun j=>v.ownBlock=some j) W0 c4).new (fun j hj=>by have:=hv _ hj;omega),h.ns.lo⟩
 have hkN:Keep (fun j=>j=N) c4 (c4.setCell ⟨N,4,none⟩ v4):=(Keep.refl (fun j=>j=N) c4).setCell (p:=⟨N,4,none⟩) (.inl rfl) _
 have hv4:∀ j,v4.ownBlock=some j→v.ownBlock=some j∨c.heap.size≤j:=fun j hj=>(zo hap j hj).imp id (fun e=>by omega)
 have hv4O:∀ j,v4.ownBlock=some j→O<j:=fun j hj=>(hap.own.lt j hj).1
 refine ⟨⟨hns.put 4 v4 _ _ _ _ _ (by omega) rfl,hok,hkids,by simp [hlen],?_,?_,htrb⟩,hns⟩
 ·have:=zE hap.own hkN (fun j hj e=>by have:=hv4O j hj;omega)
  rw [zNC]
  simpa [kcs] using this
 ·have f1:=(h.foot.keep hk (fun j hj e=>hj.2.2 e)).keep hkN (fun j hj e=>by have:=hj.1;omega)
  refine f1.mono (fun j hj=>hj.2.1) (fun j hj=>⟨hj.1,?_,fun e=>?_⟩)
  ·have:=hk.size
   have:=hkN.size
   have:=hj.2.1
   omega
  ·rcases hv4 j e with e2 | e2
   ·exact hj.2.2 e2
   ·have:=hj.2.1;omega
theorem KL.post {W0 w:World} {D N O:Nat} {sv:Value} {o:Ob} {f:Int→Int→Tr×Int×Int} {at0 p0:Int} {ws bs:List Int} {vw vb:Value} {k:Nat} {v:Value} {rows:List (Tr×Value×Value×Value)} {c c':World} {r:Tr×Int×Int}
    (h:KL W0 w D N O sv o f at0 p0 ws bs vw vb k v rows c) (hc:NS W0 w D N O sv (kidsK f at0 p0 k).2.2 (.int .i64 o.kind) (.int .i64 o.size) vw vb v o c') (hk:Keep (fun j=>j=N) c c') (hr:r=(.mk o.kind o.size ws bs (kidsK f at0 p0 k).1,0,(kidsK f at0 p0 k).2.2))
    (hw:ws.length≤10000000) (hb:bs.length≤10000000) (hn:k≤10000000) :
    NPost r D sv w (.returned (.tuple #[.agg #[.int .i64 o.kind,.int .i64 o.size,vw,vb,v],.int .u16 0])) c':=by
 obtain ⟨l1,l2,l3,l4⟩:=h.ns.lo
 subst hr
 refine ⟨vw,vb,v,rfl,hc.dec,hc.keep,?_,?_⟩
 ·have f1:=h.foot.keep hk (fun j hj e=>by have:=hj.1;omega)
  have f2:=(Foot.of_own h.own).keep hk (fun j hj e=>by have:=(h.own.lt j hj).1;omega)
  refine ((f1.and f2).imp (fun u hu=>by
   rw [← h.kids]
   have h5:=hu.2
   rw [← h.len] at h5
   exact .mk rows hu.1.1 hu.1.2.1 h5 hu.1.2.2)).mono (fun j hj=>hj.2) (fun j hj=>?_)
  have hs:=hk.size
  rcases hj with hj | hj
  ·have:=hj.1;have:=hj.2.1;omega
  ·have:=h.own.lt j hj;omega
 ·rw [← h.kids]
  exact .mk hw hb (by rw [List.length_map,h.len];exact hn) (fun t ht=>by
   obtain ⟨r,hr,rfl⟩:=List.mem_map.1 ht
   exact h.trb r hr)
theorem zdA {D:Nat} {sv:Value} {sz:List Int} {wd:Int→Int→Int×Int} {paid:Int} {w:World} (hD:Dec D sv paid w) (h:Sou sv sz wd w) (seg at_ n:Int) (hn:0≤n) (h0:0≤at_) (h1:at_+n≤10000000) :
    Calls Tryz.prog 266 #[.pointer (some ⟨D,0,none⟩),.int .i64 seg,.int .i64 at_,.int .i64 n] w fun e w'=>∃ A c,e=.returned (.slice A (wordsP wd seg at_ n.toNat).length c)∧Grow w w'∧w'.ownsRow w.heap.size 22 1 (.slice A (wordsP wd seg at_ n.toNat).length c) (wordsP wd seg at_ n.toNat).length (u64s (wordsP wd seg at_ n.toNat)):=by
 obtain ⟨m,rfl⟩:∃ m:Nat,n=m:=⟨n.toNat,by omega⟩
 rw [Int.toNat_natCast,zj]
 exact zgC hD h seg at_ m h0 h1
theorem zYH {D:Nat} {sv:Value} {sz:List Int} {wd:Int→Int→Int×Int} {paid:Int} {w:World} (hD:Dec D sv paid w) (h:Sou sv sz wd w) (hv:∀ seg at_,0≤(wd seg at_).1∧(wd seg at_).1≤18446744073709551615) (seg at_ n:Int) (hn0:0≤n) (h0:0≤at_) (h1:at_≤1000000) (hn:n≤1000000) :
    Calls Tryz.prog 267 #[.pointer (some ⟨D,0,none⟩),.int .i64 seg,.int .i64 at_,.int .i64 n] w fun e w'=>∃ A c,e=.returned (.slice A (bytesP wd seg at_ n.toNat).length c)∧Grow w w'∧w'.ownsRow w.heap.size 5 1 (.slice A (bytesP wd seg at_ n.toNat).length c) (bytesP wd seg at_ n.toNat).length (u8s (bytesP wd seg at_ n.toNat)):=by
 obtain ⟨m,rfl⟩:∃ m:Nat,n=m:=⟨n.toNat,by omega⟩
 rw [Int.toNat_natCast,zGA]
 exact zRF hD h hv seg at_ m h0 h1 (by omega)
theorem zVA:(Tryz.prog.info? 114).map (fun i=>(i.zero,i.size,i.bytes))=some (some (.agg #[.int .i64 0,.int .i64 0,.slice none 0 0,.slice none 0 0,.slice none 0 0]),5,88):=by kernel_rfl
theorem ztA {wd:Int→Int→Int×Int} {f:Int→Int→Int→Tr×Int×Int} {o:Ob} {p:Int} {ws bs:List Int} {at0:Int} {n:Nat} (hws:wordsP wd o.seg o.at_ (if o.size=5 then o.count else o.data).toNat=ws) (hbs:(if o.size=2 then bytesP wd o.seg o.at_ o.count.toNat else [])=bs) (hat:(if o.size=6 then o.at_ else o.at_+o.data)=at0)
    (hn:(if o.size=6 then o.count else o.ptrs).toNat=n) (hok:(kidsK (f o.seg) at0 p n).2.1=0):nodeT wd f o p=(.mk o.kind o.size ws bs (kidsK (f o.seg) at0 p n).1,0,(kidsK (f o.seg) at0 p n).2.2):=by
 unfold nodeT
 rw [hws,hbs,hat,hn,if_pos hok]
theorem zqD {wd:Int→Int→Int×Int} {f:Int→Int→Int→Tr×Int×Int} {o:Ob} {p:Int} {at0:Int} {n:Nat} (hat:(if o.size=6 then o.at_ else o.at_+o.data)=at0)
    (hn:(if o.size=6 then o.count else o.ptrs).toNat=n) (hok:(kidsK (f o.seg) at0 p n).2.1≠0):nodeT wd f o p=(tr0,(kidsK (f o.seg) at0 p n).2.1,(kidsK (f o.seg) at0 p n).2.2):=by
 unfold nodeT
 rw [hat,hn,if_neg hok]
theorem zb {c:World} {N:Nat} (b0 b1 b2 b3 b4:Value):Keep (fun j=>j=N) c (((((c.setCell ⟨N,0,none⟩ b0).setCell ⟨N,1,none⟩ b1).setCell ⟨N,2,none⟩ b2).setCell ⟨N,3,none⟩ b3).setCell ⟨N,4,none⟩ b4) :=
 (((((Keep.refl (fun j=>j=N) c).setCell (p:=⟨N,0,none⟩) (.inl rfl) _).setCell (p:=⟨N,1,none⟩) (.inl rfl) _).setCell (p:=⟨N,2,none⟩) (.inl rfl) _).setCell (p:=⟨N,3,none⟩) (.inl rfl) _).setCell (p:=⟨N,4,none⟩) (.inl rfl) _
theorem zaA {base e size n:Nat} {v:Value} {xs:List Value} {c:World} (h:c.ownsRow base e size v n xs) {N:Nat} (hN:N<base) (i:Nat) (u:Value):(c.setCell ⟨N,i,none⟩ u).ownsRow base e size v n xs :=
 zE h ((Keep.refl (fun j=>j=N) c).setCell (p:=⟨N,i,none⟩) (.inl rfl) _) (fun k hk e=>by have:=(h.lt k hk).1;omega)
theorem zt:Tryz.prog.underlying 112=some (.slice 114):=by kernel_rfl
theorem zOI {sz:List Int} {wd:Int→Int→Int×Int} (ho:SouOk sz wd) (sv:Value) (W0:World) (D:Nat) (paid seg at_:Int) (w:World) (hS:Sou sv sz wd W0) (hD:Dec D sv paid w) (hD0:W0.heap.size≤D) (hg:Grow W0 w) (p0:0≤paid) (p1:paid≤8192) :
    Calls Tryz.prog 244 #[.pointer (some ⟨D,0,none⟩),.int .i64 seg,.int .i64 at_,.int .i64 0] w (NPost (nodeP sz wd 0 seg at_ paid) D sv w):=by
 obtain ⟨T,pv,fw,fs,r,rfl,-⟩:=hS.out
 have HSO:=LH ho
 have HS0:=LH hS
 have hg0:=(Keep.refl NoB w).alloc (.cells #[.int .i64 0,.int .i64 0,.slice none 0 0,.slice none 0 0,.slice none 0 0] 114)
 have HS:=LH (hS.grow (hg.grow hg0))
 have dc0:=(hD.grow hg0).c0
 have HD:=LH (And.intro hD (And.intro hD0 hg))
 have E0:Hid (nodeP sz wd 0 seg at_ paid=nodeS sz wd true (fun _ _ _=>(tr0,0,0)) seg at_ paid):=LH rfl
 clear hS hD hD0 hg hg0 ho
 go_enter Tryz.func244,Tryz.ntmps244
 go_wp2_with fail
 refine (zZA HS.out HSO.out seg at_).mono ?_
 rintro e w1 ⟨rfl,hg1⟩
 have HO:=LH (zn HSO.out seg at_)
 unfold nodeS at E0
 generalize (followP sz wd seg at_).1=o at *
 generalize (followP sz wd seg at_).2=fe at *
 have HNS:=LH (zTB (o:=o) HD.out.1 HD.out.2.1 HD.out.2.2 hg1)
 clear hg1 dc0
 by_cases he:fe=0
 case neg =>
  have eb:(fe != 0)=true:=by simp [he]
  have E:=LH (E0.out.trans (if_neg he))
  clear he
  obtain ⟨n0,n1,n2,n3,n4,nf⟩:=zA HNS.out.nod
  have HNE:=LH (HNS.out.all (.int .i64 0) (.int .i64 0) (.slice none 0 0) (.slice none 0 0) (.slice none 0 0))
  go_wp2
  (try simp only [Exit.inBlock,Exit.then])
  obtain ⟨r0,r1,r2,r3,r4,rf⟩:=zA HNE.out.nod
  refine bodyPost_ret (v:=.tuple #[.agg #[.int .i64 0,.int .i64 0,.slice none 0 0,.slice none 0 0,.slice none 0 0],.int .u16 fe]) ?_ rfl (zg HNE.out (er:=fe) E.out)
  rw [results_cell_tmp rfl];go_simp
 subst he
 replace E0:=LH (E0.out.trans (if_pos (by simp)))
 obtain ⟨o0,o1,o2,o3,o4,o5,o6,of⟩:=zC HNS.out.drew.obj
 have hD1:=HNS.out.drew.dec.c1
 have hDf:=zM 1 HNS.out.drew.dec
 have hDc0:=HNS.out.drew.dec.c0
 have how:=zv HO.out
 have hw0:=how.1
 have hw1:=how.2
 have HNP:=LH (HNS.out.drew)
 have hs1:IntKind.i64.wrap (1+obWords o)=1+obWords o:=IntWalk.i64_in _ (by omega)
 have hs2:IntKind.i64.wrap (paid+(1+obWords o))=paid+(1+obWords o):=IntWalk.i64_in _ (by omega)
 clear how
 go_wp2
 refine zD [0,1,2,3,4,5,6,7,8,9,10] [5,10] [3,4] [10] rfl (by kernel_rfl) ?_
 iterate 3
  refine ord_p ?_
 refine ord_r (y:=by intro w' hg;have q:=hg.cell hD1 (fun h=>h);go_simp;with_reducible rfl) (z:=?_)
 refine ord_r (y:=by intro w' hg;have q0:=hg.cell o0 (fun h=>h);have q1:=hg.cell o1 (fun h=>h);have q2:=hg.cell o2 (fun h=>h);have q3:=hg.cell o3 (fun h=>h);have q4:=hg.cell o4 (fun h=>h);have q5:=hg.cell o5 (fun h=>h);have q6:=hg.cell o6 (fun h=>h);go_simp;with_reducible rfl) (z:=?_)
 refine zG rfl rfl rfl rfl rfl Tryz.func264 rfl rfl [.agg #[.int .i64 o.kind,.int .i64 o.seg,.int .i64 o.at_,.int .i64 o.data,.int .i64 o.ptrs,.int .i64 o.size,.int .i64 o.count]] rfl ?_
 refine (zYA o _ HO.out.ok).mono ?_
 rintro e w2 ⟨rfl,hg2⟩
 refine ⟨_,rfl,fun _=>hg2,?_⟩
 have HNQ:=LH (HNP.out.grow hg2)
 have hD1':=HNQ.out.dec.c1
 have hDf':=zM 1 HNQ.out.dec
 clear hg2 o0 o1 o2 o3 o4 o5 o6 of hD1 hDf hDc0
 simp only [Act.put,pB,pC,pD]
 iterate 4
  refine ord_p ?_
 refine zK rfl rfl rfl rfl ?_ ?_ (fun h=>absurd (by simp) h) ?_
 rotate_left
 ·go_simp;with_reducible rfl
 refine zF ?_
 replace HNS:=LH (HNQ.out.pay (paid+(1+obWords o)))
 clear HNP HNQ hD1' hDf' hs1 hs2
 generalize w2.setCell ⟨D,1,none⟩ (.int .i64 (paid+(1+obWords o)))=cw at HNS ⊢
 obtain ⟨o0,o1,o2,o3,o4,o5,o6,of⟩:=zC HNS.out.obj
 by_cases hk:o.kind=0
 case neg =>
  have eb:(o.kind != 0)=true:=by simp [hk]
  have E:=LH (E0.out.trans (if_pos ⟨hk,by trivial⟩))
  clear hk
  obtain ⟨n0,n1,n2,n3,n4,nf⟩:=zA HNS.out.nod
  have HNE:=LH (HNS.out.all (.int .i64 0) (.int .i64 0) (.slice none 0 0) (.slice none 0 0) (.slice none 0 0))
  go_wp2
  (try simp only [Exit.inBlock,Exit.then])
  obtain ⟨r0,r1,r2,r3,r4,rf⟩:=zA HNE.out.nod
  refine bodyPost_ret (v:=.tuple #[.agg #[.int .i64 0,.int .i64 0,.slice none 0 0,.slice none 0 0,.slice none 0 0],.int .u16 21]) ?_ rfl (zg HNE.out (er:=21) E.out)
  rw [results_cell_tmp rfl];go_simp
 have eb:(o.kind != 0)=false:=by simp [hk]
 replace E0:=LH (E0.out.trans (if_neg (fun h=>h.1 hk)))
 have hob:o=ob0:=by
  rcases HO.out.cases with h | h | h
  ·exact h
  ·have:=h.1;omega
  ·have:=h.1;omega
 have Hob:=LH hob
 clear hob hk
 have hD1:=HNS.out.dec.c1
 by_cases hp:8192<paid+(1+obWords o)
 ·have E:=LH (E0.out.trans (if_pos hp))
  obtain ⟨n0,n1,n2,n3,n4,nf⟩:=zA HNS.out.nod
  have HNE:=LH (HNS.out.all (.int .i64 0) (.int .i64 0) (.slice none 0 0) (.slice none 0 0) (.slice none 0 0))
  go_wp2
  (try simp only [Exit.inBlock,Exit.then])
  obtain ⟨r0,r1,r2,r3,r4,rf⟩:=zA HNE.out.nod
  refine bodyPost_ret (v:=.tuple #[.agg #[.int .i64 0,.int .i64 0,.slice none 0 0,.slice none 0 0,.slice none 0 0],.int .u16 22]) ?_ rfl (zg HNE.out (er:=22) E.out)
  rw [results_cell_tmp rfl];go_simp
 replace E0:=LH (E0.out.trans (if_neg hp))
 have hpp:paid+(1+obWords o)≤8192:=by omega
 clear hp
 have da0:0≤o.data:=HO.out.ok.d.1
 have da1:o.data≤65535:=HO.out.ok.d.2
 have at0:0≤o.at_:=HO.out.at0
 have at1:o.at_≤100000:=by rw [Hob.out];simp [ob0]
 have hz2:(o.size==2)=false:=by rw [Hob.out];rfl
 have hz5:(o.size==5)=false:=by rw [Hob.out];rfl
 have hz6:(o.size==6)=false:=by rw [Hob.out];rfl
 have hpt:o.ptrs≤0:=by rw [Hob.out];simp [ob0]
 have hdt:o.data.toNat≤1000000:=by omega
 obtain ⟨n0,n1,n2,n3,n4,nf⟩:=zA HNS.out.nod
 go_wp2
 go_region
 replace HNS:=LH (((HNS.out.put 0 (.int .i64 o.kind) _ _ _ _ _ (by omega) rfl).put 1 (.int .i64 o.size) _ _ _ _ _ (by omega) rfl).drew)
 clear o0 o1 o2 o3 o4 o5 o6 of n0 n1 n2 n3 n4 nf hD1
 generalize ((cw.setCell ⟨w.heap.size,0,none⟩ (.int .i64 o.kind)).setCell ⟨w.heap.size,1,none⟩ (.int .i64 o.size)).drew=cv at HNS ⊢
 obtain ⟨o0,o1,o2,o3,o4,o5,o6,of⟩:=zC HNS.out.obj
 have hs3:IntKind.i64.wrap (o.at_+o.data)=o.at_+o.data:=IntWalk.i64_in _ (by omega)
 go_wp2
 go_region
 replace HNS:=LH HNS.out.drew
 clear o0 o1 o2 o3 o4 o5 o6 of hs3
 generalize cv.drew=cu at HNS ⊢
 obtain ⟨o0,o1,o2,o3,o4,o5,o6,of⟩:=zC HNS.out.obj
 have hO1:w1.heap.size+1≤cu.heap.size:=(gE HNS.out.obj).1
 have hNO:w.heap.size<w1.heap.size:=HNS.out.lo.2.2.2
 have hNOn:w.heap.size≠w1.heap.size:=by omega
 go_wp2_with fail
 refine (zdA HNS.out.dec (HS0.out.grow HNS.out.base) o.seg o.at_ o.data da0 at0 (by omega)).mono ?_
 rintro e w3 ⟨A1,c1,rfl,hg,ho1⟩
 replace HNS:=LH (HNS.out.grow hg)
 have HW:=LH (zmA ho1 hO1)
 clear hg ho1 o0 o1 o2 o3 o4 o5 o6 of hO1
 obtain ⟨o0,o1,o2,o3,o4,o5,o6,of⟩:=zC HNS.out.obj
 obtain ⟨n0,n1,n2,n3,n4,nf⟩:=zA HNS.out.nod
 go_wp2
 replace HNS:=LH (HNS.out.put 2 (.slice A1 (wordsP wd o.seg o.at_ o.data.toNat).length c1) _ _ _ _ _ (by omega) rfl)
 replace HW:=LH (zaA HW.out (N:=w.heap.size) (by omega) 2 (.slice A1 (wordsP wd o.seg o.at_ o.data.toNat).length c1))
 generalize w3.setCell ⟨w.heap.size,2,none⟩ (.slice A1 (wordsP wd o.seg o.at_ o.data.toNat).length c1)=c2 at HNS HW ⊢
 have HV:=LH (World.ownsRow_nil c2 (w1.heap.size+1) 5 1)
 have hn0:(if o.size=6 then o.count else o.ptrs).toNat=0:=by rw [Hob.out];rfl
 have E:=LH (E0.out.trans (ztA (ws:=wordsP wd o.seg o.at_ o.data.toNat) (bs:=[]) (at0:=o.at_+o.data) (n:=0) (by rw [Hob.out];rfl) (by rw [Hob.out];rfl) (by rw [Hob.out];rfl) hn0 rfl))
 clear o0 o1 o2 o3 o4 o5 o6 of n0 n1 n2 n3 n4 nf hn0
 go_loopw [109] (fun v wr=>wr=c2∧v=.int .i64 0) (fun v _=>0)
 case atStart=>exact ⟨rfl,rfl⟩
 case round =>
  obtain ⟨rfl,rfl⟩:=hrel
  obtain ⟨n0,n1,n2,n3,n4,nf⟩:=zA HNS.out.nod
  have HNE:=LH (HNS.out.all (.int .i64 o.kind) (.int .i64 o.size) (.slice A1 (wordsP wd o.seg o.at_ o.data.toNat).length c1) (.slice none 0 0) (.slice none 0 0))
  go_wp2
  (try simp only [Exit.inBlock,Exit.then])
  obtain ⟨r0,r1,r2,r3,r4,rf⟩:=zA HNE.out.nod
  refine bodyPost_ret (v:=.tuple #[.agg #[.int .i64 o.kind,.int .i64 o.size,.slice A1 (wordsP wd o.seg o.at_ o.data.toNat).length c1,.slice none 0 0,.slice none 0 0],.int .u16 0]) ?_ rfl ((KL.begin (bs:=[]) (at0:=o.at_+o.data) (f:=((fun _ _ _=>(tr0,0,0)) o.seg)) HNS.out HW.out HV.out).post HNE.out (zb _ _ _ _ _) E.out (by rw [zj];omega) (by simp) (by omega))
  rw [results_cell_tmp rfl];go_simp
end Go.Proofs.YtfkcpaahdlkcdaaGreat

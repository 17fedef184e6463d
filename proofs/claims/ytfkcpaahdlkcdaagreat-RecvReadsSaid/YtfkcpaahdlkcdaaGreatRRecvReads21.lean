import Derived.Test.YtfkcpaahdlkcdaaGreatRRecvReads20
set_option linter.unusedSimpArgs false
set_option linter.unusedVariables false
set_option maxRecDepth 100000
set_option maxHeartbeats 16000000
namespace Go.Proofs.YtfkcpaahdlkcdaaGreat
open Go.RowKit
theorem zQ (w:World) (a b:Obj):((w.alloc a).alloc b).heap[w.heap.size]? = some a∧((w.alloc a).alloc b).heap[w.heap.size+1]? = some b∧((w.alloc a).alloc b).heap.size=w.heap.size+2:=by
 have e1:(w.alloc a).heap.size=w.heap.size+1:=by simp
 have h1:=heap_alloc_new (w.alloc a) b
 rw [e1] at h1
 exact ⟨Grow.heap ((Keep.refl NoB (w.alloc a)).alloc b) (heap_alloc_new w a),h1,by simp⟩
def bytesT (x:Int) (n:Nat):List Int:=(List.range n).map (fun (i:Nat)=>(x+i)%256)
theorem zS (x:Int) (n:Nat):(bytesT x n).length=n:=by simp [bytesT]
theorem zbB (x:Int) (n:Nat):u8s (bytesT x (n+1))=u8s (bytesT x n)++[.int .u8 ((x+n)%256)]:=by
 simp [bytesT,u8s,List.range_succ]
theorem zkB (x:Int) (n:Nat):∀ y∈bytesT x n,0≤y∧y≤255:=by
 intro y hy
 simp only [bytesT,List.mem_map] at hy
 obtain ⟨i,_,rfl⟩:=hy
 omega
theorem zdJ (x:Int) (l:List Int) (ad:Addr) (n c:Nat) (deep:Nat) (v w:World) (hv:Grow v w) (h:SliceR 1 (.slice (some ad) n c) n (u8s (x :: l)) v) (hn:n=l.length+1) (hl:l.length≤1000000) (hx:0≤x∧x≤255) (hu:okU l) (hd:deep≠0) (hc1:¬ (c=1)) (m:Nat) (hmm:(m:Int)=3*(x/8%5)+x%2) (hm:x%8=1∨x%8=2) :
    Calls Tryz.prog 56 #[(.slice (some ad) n c),.int .i64 deep] w (TreePost deep (l.length+1) l.length v w):=by
 have HD0:=LH hd
 have HT:=LH (h.tail2 hn hc1)
 have hcell0:v.cell? ad=some (.int .u8 x):=by
  obtain ⟨A9,c9,e9,_,_,_,hq⟩:=h
  injection e9 with e9 _ _
  obtain ⟨a9,e8,hc⟩:=hq 0 (.int .u8 x) rfl
  rw [← e9] at e8
  injection e8 with e8
  subst e8
  rw [Addr.add_zero'] at hc
  exact hc
 have hcell:=hv.cell hcell0 (fun h=>h)
 clear hcell0 hv
 have hc:n≤c:=by
  obtain ⟨_,_,e,h2,_⟩:=h
  injection e with _ e2 e3
  omega
 have hq:(((n:Nat):Int)==0)=false:=beq_eq_false_iff_ne.2 (by omega)
 have hn1:(1:Int)≤n:=by omega
 have hn0:(0:Int)<n:=by omega
 have HN2:=LH hn
 have HLN:Hid (n-1=l.length):=LH (by omega)
 have hdq:(((deep:Nat):Int)==0)=false:=beq_eq_false_iff_ne.2 (by omega)
 have hmb:(x%8==0)=false:=beq_eq_false_iff_ne.2 (by omega)
 have HMM:=LH hmm
 have hm9:m≤20:=by omega
 have hga:=(Keep.refl NoB w).alloc (.cells qA 114)
 have hgb:=hga.alloc (.cells qA 114)
 have hcell2:=hga.cell hcell (fun h=>h)
 have HX:Hid (0≤x∧x≤255):=LH hx
 obtain ⟨hx1,hx2⟩:=hx
 rcases hm with hm | hm
 ·have hm1:(x%8==1)=true:=beq_iff_eq.2 hm
  clear h hm hmm hd hn hcell hga hgb
  go_enter Tryz.func56,Tryz.ntmps56
  go_wp2_with fail
  have hy1:0≤x/8%5:=by omega
  have hy2:x/8%5≤4:=by omega
  have hz1:0≤x%2:=by omega
  have hz2:x%2≤1:=by omega
  go_loopw [9] (fun v wr=>∃ k:Nat,k≤m∧v=.int .i64 k∧∃ A4 c4,wr.heap[w.heap.size]? = some (.cells qA 114 (0,0))∧wr.heap[w.heap.size+1]? = some (.cells #[qQ,qQ,qI,.slice A4 k c4,qI] 114 (0,0))∧Hid (Grow w wr∧w.heap.size+2≤wr.heap.size∧wr.ownsRow (w.heap.size+2) 5 1 (.slice A4 k c4) k (u8s (bytesT x k)))) (fun v _=>m-(intOf v).toNat)
  case atStart=>exact ⟨0,by omega,rfl,none,0,(zQ w _ _).1,(zQ w _ _).2.1,((Keep.refl NoB w).alloc _).alloc _,Nat.le_of_eq (zQ w _ _).2.2.symm,World.ownsRow_nil _ (w.heap.size+2) 5 1⟩
  case round =>
   obtain ⟨k,hk,rfl,A4,c4,hb4,hb7,HS⟩:=hrel
   have hwa:IntKind.i64.wrap (3*(x/8%5))=3*(x/8%5):=IntWalk.i64_in _ (by omega)
   have hwb:IntKind.i64.wrap (3*(x/8%5)+x%2)=3*(x/8%5)+x%2:=IntWalk.i64_in _ (by omega)
   have hd0:wr.cell? ⟨w.heap.size+1,0,none⟩=_:=World.news_of_block hb7 0 _ rfl
   have hd1:wr.cell? ⟨w.heap.size+1,1,none⟩=_:=World.news_of_block hb7 1 _ rfl
   have hd2:wr.cell? ⟨w.heap.size+1,2,none⟩=_:=World.news_of_block hb7 2 _ rfl
   have hd3:wr.cell? ⟨w.heap.size+1,3,none⟩=_:=World.news_of_block hb7 3 _ rfl
   have hd4:wr.cell? ⟨w.heap.size+1,4,none⟩=_:=World.news_of_block hb7 4 _ rfl
   by_cases hlt:k<m
   ·have hw:IntKind.i64.wrap ((k:Int)+1)=(k:Int)+1:=IntWalk.i64_in _ (by omega)
    have hlt':(k:Int)<3*(x/8%5)+x%2:=by have:=HMM.out;omega
    have hk9:(k:Int)≤255:=by omega
    have E1:=LH (zbB x k)
    go_wp2_with (at_builtin;refine zL _ rfl _ _ 23 23 rfl (w.heap.size+2) 5 (.int .u8 0) 1 1 zW zz rfl (.slice A4 k c4) k (u8s (bytesT x k)) rfl (.slice (some ⟨wr.heap.size,0,none⟩) 1 1) 1 [.int .u8 ((x+k)%256)] rfl ?_ (by exact zF HS.out.2.2 ((Keep.refl NoB wr).alloc _) (fun _ _ h=>h)) (by exact Src.ofSlice _ zW ⟨wr.heap.size,0,none⟩ 1 1 _ rfl (World.news_of_block (cs:=#[.int .u8 ((x+k)%256)]) (t:=5) (fr:=(0,0)) (heap_alloc_new wr _)) (by simp [Value.oneCell'])) (by simp only [maxLen];omega) (by omega) (by have:=HS.out.2.1;simp;omega);intro v3 w3 hap;refine Hid.out ?_)
    refine LH ?_
    have Hg3:Hid (Grow w w3∧w.heap.size+2≤w3.heap.size):=⟨((((HS.out.1.mono (T:=fun k=>w.heap.size+2≤k) (fun _ h=>h.elim)).alloc _).grown hap.grew (fun k hk=>.inl (HS.out.2.2.lt k hk).1))).new (fun _ h=>by omega),by have h1:=HS.out.2.1;have h2:=hap.grew.size;simp at h2;omega⟩
    have HK:=((Keep.refl (fun k=>w.heap.size+2≤k) wr).alloc (.cells #[.int .u8 ((x+k)%256)] 5)).grown hap.grew (fun k hk=>.inl (HS.out.2.2.lt k hk).1)
    have hs2:=HS.out.2.1
    have hc4:=(HK.block w.heap.size (by omega) (by omega)).trans hb4
    have hc7:=(HK.block (w.heap.size+1) (by omega) (by omega)).trans hb7
    have Ho3:=LH hap.own
    obtain ⟨A6,c6,rfl,_⟩:=zK hap.own
    have hlb:∀ q,(Value.slice A6 (k+1) c6).ownBlock=some q→w.heap.size+2≤q:=fun q hq=>(hap.own.lt q hq).1
    clear hap HK
    rw [← E1.out] at Ho3
    have hd3':w3.cell? ⟨w.heap.size+1,3,none⟩=_:=World.news_of_block hc7 3 _ rfl
    have hfr:∀ o,w3.frozen? ⟨w.heap.size+1,o,none⟩=false:=fun o=>zN o hc7
    have Hc:=LH hc4
    have Hc':=LH hc7
    have Hlb:=LH hlb
    clear hd0 hd1 hd2 hd3 hd4 hb4 hb7 hc4 hc7 hlb
    go_wp2
    go_roundw
    case rel =>
     have hkk:Keep (fun q=>q=w.heap.size+1) w3 (w3.setCell ⟨w.heap.size+1,3,none⟩ (.slice A6 (k+1) c6)):=(Keep.refl (fun q=>q=w.heap.size+1) w3).setCell (p:=⟨w.heap.size+1,3,none⟩) (.inl rfl) _
     refine ⟨k+1,by omega,by go_num,A6,c6,(hkk.block w.heap.size (by have:=Hg3.out.2;omega) (by simp)).trans Hc.out,?_,Hg3.out.1.setCell (.inr (by simp)) _,Nat.le_trans Hg3.out.2 hkk.size,zF Ho3.out hkk (fun q hq=>by have:=Hlb.out q hq;omega)⟩
     have hq:=Hc'.out
     simp only [World.setCell,Array.getElem?_modify]
     simp [hq]
    case measure=>simp [intOf];omega
   ·obtain rfl:k=m:=by omega
    have hlt':¬ ((k:Int)<3*(x/8%5)+x%2):=by have:=HMM.out;omega
    have hf0:wr.cell? ⟨w.heap.size,0,none⟩=_:=World.news_of_block hb4 0 _ rfl
    have hf1:wr.cell? ⟨w.heap.size,1,none⟩=_:=World.news_of_block hb4 1 _ rfl
    have hf2:wr.cell? ⟨w.heap.size,2,none⟩=_:=World.news_of_block hb4 2 _ rfl
    have hf3:wr.cell? ⟨w.heap.size,3,none⟩=_:=World.news_of_block hb4 3 _ rfl
    have hf4:wr.cell? ⟨w.heap.size,4,none⟩=_:=World.news_of_block hb4 4 _ rfl
    have hfr:∀ o,wr.frozen? ⟨w.heap.size,o,none⟩=false:=fun o=>zN o hb4
    have HB:=LH hb4
    clear hb4 hb7
    obtain ⟨hw5,hg5⟩:=zY (.int .i64 2) (.int .i64 2) (.slice none 0 0) (.slice A4 k c4) (.slice none 0 0) HS.out.1 (Nat.le_refl _) HB.out
    have hk5:Keep (fun q=>q=w.heap.size) wr (((((wr.setCell ⟨w.heap.size,0,none⟩ (.int .i64 2)).setCell ⟨w.heap.size,1,none⟩ (.int .i64 2)).setCell ⟨w.heap.size,2,none⟩ (.slice none 0 0)).setCell ⟨w.heap.size,3,none⟩ (.slice A4 k c4)).setCell ⟨w.heap.size,4,none⟩ (.slice none 0 0)) :=
     ((((((Keep.refl (fun q=>q=w.heap.size) wr).setCell (p:=⟨w.heap.size,0,none⟩) (.inl rfl) _).setCell (p:=⟨w.heap.size,1,none⟩) (.inl rfl) _).setCell (p:=⟨w.heap.size,2,none⟩) (.inl rfl) _).setCell (p:=⟨w.heap.size,3,none⟩) (.inl rfl) _).setCell (p:=⟨w.heap.size,4,none⟩) (.inl rfl) _)
    have ho5:=zF HS.out.2.2 hk5 (fun q hq=>by have:=(HS.out.2.2.lt q hq).1;omega)
    clear hk5
    have HG5:=LH hg5
    have HW5:=LH hw5
    have HO5:=LH ho5
    clear hg5 hw5 ho5
    go_wp2
    revert HG5 HW5 HO5
    generalize (((((wr.setCell ⟨w.heap.size,0,none⟩ (.int .i64 2)).setCell ⟨w.heap.size,1,none⟩ (.int .i64 2)).setCell ⟨w.heap.size,2,none⟩ (.slice none 0 0)).setCell ⟨w.heap.size,3,none⟩ (.slice A4 k c4)).setCell ⟨w.heap.size,4,none⟩ (.slice none 0 0))=w5
    intro HG5 HW5 HO5
    have HFIN:Hid (TreePost deep (l.length+1) l.length v w (.returned (.tuple #[.agg #[qQ,qQ,qI,.slice A4 k c4,qI],.slice (some ⟨ad.block,ad.off+1,none⟩) (n-1) (c-1)])) w5):=by
     have hs:=HT.out
     rw [HLN.out] at hs ⊢
     refine LH ⟨.mk 2 2 [] (bytesT x k) [],none,A4,none,0,c4,0,l,_,_,by simp [Tr.kind,Tr.size,Tr.ws,Tr.bs,Tr.kids,zS],HG5.out,?_,.mk (fun _ h=>by cases h) (zkB x k) (fun _ h=>by cases h),.mk (by simp) (by rw [zS];omega) (by simp) (fun _ h=>by cases h),hs,Nat.le_refl _,hu,TreeN.leaf rfl HD0.out (by simp [ownT,ownB,Tr.kind,Tr.size,Tr.ws,Tr.bs,Tr.kids,zS];omega) (by simp [needN,Tr.kind,Tr.ws,Tr.bs,Tr.kids,zS];have:=HMM.out;omega) (Nat.le_refl _)⟩
     exact ((Foot.of_own HO5.out).imp (fun W hs=>by
      show TrR W _ (.slice none 0 0) (.slice A4 (bytesT x k).length c4) (.slice none 0 0)
      rw [zS]
      exact .mk (rows:=[]) (zZ _ _) (by rw [zS];exact hs) (zZ _ _) (fun r h=>by cases h))).mono (fun k h=>h.2) (fun q hq=>⟨by have:=(HO5.out.lt q hq).1;omega,(HO5.out.lt q hq).2⟩)
    obtain ⟨hf0,hf1,hf2,hf3,hf4,hfr⟩:=zA HW5.out
    refine bodyPost_ret (v:=.tuple #[.agg #[qQ,qQ,qI,.slice A4 k c4,qI],.slice (some ⟨ad.block,ad.off+1,none⟩) (n-1) (c-1)]) ?_ rfl HFIN.out
    rw [results_cell_tmp rfl];go_simp
 ·have hm1:(x%8==1)=false:=beq_eq_false_iff_ne.2 (by omega)
  have hm2:(x%8==2)=true:=beq_iff_eq.2 hm
  clear h hm hmm hd hn hcell hga hgb
  go_enter Tryz.func56,Tryz.ntmps56
  go_wp2_with fail
  have hy1:0≤x/8%5:=by omega
  have hy2:x/8%5≤4:=by omega
  have hz1:0≤x%2:=by omega
  have hz2:x%2≤1:=by omega
  go_loopw [9] (fun v wr=>∃ k:Nat,k≤m∧v=.int .i64 k∧∃ A4 c4,wr.heap[w.heap.size]? = some (.cells qA 114 (0,0))∧wr.heap[w.heap.size+1]? = some (.cells #[qQ,qQ,qI,.slice A4 k c4,qI] 114 (0,0))∧Hid (Grow w wr∧w.heap.size+2≤wr.heap.size∧wr.ownsRow (w.heap.size+2) 5 1 (.slice A4 k c4) k (u8s (bytesT x k)))) (fun v _=>m-(intOf v).toNat)
  case atStart=>exact ⟨0,by omega,rfl,none,0,(zQ w _ _).1,(zQ w _ _).2.1,((Keep.refl NoB w).alloc _).alloc _,Nat.le_of_eq (zQ w _ _).2.2.symm,World.ownsRow_nil _ (w.heap.size+2) 5 1⟩
  case round =>
   obtain ⟨k,hk,rfl,A4,c4,hb4,hb7,HS⟩:=hrel
   have hwa:IntKind.i64.wrap (3*(x/8%5))=3*(x/8%5):=IntWalk.i64_in _ (by omega)
   have hwb:IntKind.i64.wrap (3*(x/8%5)+x%2)=3*(x/8%5)+x%2:=IntWalk.i64_in _ (by omega)
   have hd0:wr.cell? ⟨w.heap.size+1,0,none⟩=_:=World.news_of_block hb7 0 _ rfl
   have hd1:wr.cell? ⟨w.heap.size+1,1,none⟩=_:=World.news_of_block hb7 1 _ rfl
   have hd2:wr.cell? ⟨w.heap.size+1,2,none⟩=_:=World.news_of_block hb7 2 _ rfl
   have hd3:wr.cell? ⟨w.heap.size+1,3,none⟩=_:=World.news_of_block hb7 3 _ rfl
   have hd4:wr.cell? ⟨w.heap.size+1,4,none⟩=_:=World.news_of_block hb7 4 _ rfl
   by_cases hlt:k<m
   ·have hw:IntKind.i64.wrap ((k:Int)+1)=(k:Int)+1:=IntWalk.i64_in _ (by omega)
    have hlt':(k:Int)<3*(x/8%5)+x%2:=by have:=HMM.out;omega
    have hk9:(k:Int)≤255:=by omega
    have E1:=LH (zbB x k)
    go_wp2_with (at_builtin;refine zL _ rfl _ _ 23 23 rfl (w.heap.size+2) 5 (.int .u8 0) 1 1 zW zz rfl (.slice A4 k c4) k (u8s (bytesT x k)) rfl (.slice (some ⟨wr.heap.size,0,none⟩) 1 1) 1 [.int .u8 ((x+k)%256)] rfl ?_ (by exact zF HS.out.2.2 ((Keep.refl NoB wr).alloc _) (fun _ _ h=>h)) (by exact Src.ofSlice _ zW ⟨wr.heap.size,0,none⟩ 1 1 _ rfl (World.news_of_block (cs:=#[.int .u8 ((x+k)%256)]) (t:=5) (fr:=(0,0)) (heap_alloc_new wr _)) (by simp [Value.oneCell'])) (by simp only [maxLen];omega) (by omega) (by have:=HS.out.2.1;simp;omega);intro v3 w3 hap;refine Hid.out ?_)
    refine LH ?_
    have Hg3:Hid (Grow w w3∧w.heap.size+2≤w3.heap.size):=⟨((((HS.out.1.mono (T:=fun k=>w.heap.size+2≤k) (fun _ h=>h.elim)).alloc _).grown hap.grew (fun k hk=>.inl (HS.out.2.2.lt k hk).1))).new (fun _ h=>by omega),by have h1:=HS.out.2.1;have h2:=hap.grew.size;simp at h2;omega⟩
    have HK:=((Keep.refl (fun k=>w.heap.size+2≤k) wr).alloc (.cells #[.int .u8 ((x+k)%256)] 5)).grown hap.grew (fun k hk=>.inl (HS.out.2.2.lt k hk).1)
    have hs2:=HS.out.2.1
    have hc4:=(HK.block w.heap.size (by omega) (by omega)).trans hb4
    have hc7:=(HK.block (w.heap.size+1) (by omega) (by omega)).trans hb7
    have Ho3:=LH hap.own
    obtain ⟨A6,c6,rfl,_⟩:=zK hap.own
    have hlb:∀ q,(Value.slice A6 (k+1) c6).ownBlock=some q→w.heap.size+2≤q:=fun q hq=>(hap.own.lt q hq).1
    clear hap HK
    rw [← E1.out] at Ho3
    have hd3':w3.cell? ⟨w.heap.size+1,3,none⟩=_:=World.news_of_block hc7 3 _ rfl
    have hfr:∀ o,w3.frozen? ⟨w.heap.size+1,o,none⟩=false:=fun o=>zN o hc7
    have Hc:=LH hc4
    have Hc':=LH hc7
    have Hlb:=LH hlb
    clear hd0 hd1 hd2 hd3 hd4 hb4 hb7 hc4 hc7 hlb
    go_wp2
    go_roundw
    case rel =>
     have hkk:Keep (fun q=>q=w.heap.size+1) w3 (w3.setCell ⟨w.heap.size+1,3,none⟩ (.slice A6 (k+1) c6)):=(Keep.refl (fun q=>q=w.heap.size+1) w3).setCell (p:=⟨w.heap.size+1,3,none⟩) (.inl rfl) _
     refine ⟨k+1,by omega,by go_num,A6,c6,(hkk.block w.heap.size (by have:=Hg3.out.2;omega) (by simp)).trans Hc.out,?_,Hg3.out.1.setCell (.inr (by simp)) _,Nat.le_trans Hg3.out.2 hkk.size,zF Ho3.out hkk (fun q hq=>by have:=Hlb.out q hq;omega)⟩
     have hq:=Hc'.out
     simp only [World.setCell,Array.getElem?_modify]
     simp [hq]
    case measure=>simp [intOf];omega
   ·obtain rfl:k=m:=by omega
    have hlt':¬ ((k:Int)<3*(x/8%5)+x%2):=by have:=HMM.out;omega
    have hf0:wr.cell? ⟨w.heap.size,0,none⟩=_:=World.news_of_block hb4 0 _ rfl
    have hf1:wr.cell? ⟨w.heap.size,1,none⟩=_:=World.news_of_block hb4 1 _ rfl
    have hf2:wr.cell? ⟨w.heap.size,2,none⟩=_:=World.news_of_block hb4 2 _ rfl
    have hf3:wr.cell? ⟨w.heap.size,3,none⟩=_:=World.news_of_block hb4 3 _ rfl
    have hf4:wr.cell? ⟨w.heap.size,4,none⟩=_:=World.news_of_block hb4 4 _ rfl
    have hfr:∀ o,wr.frozen? ⟨w.heap.size,o,none⟩=false:=fun o=>zN o hb4
    have HB:=LH hb4
    clear hb4 hb7
    obtain ⟨hw5,hg5⟩:=zY (.int .i64 2) (.int .i64 2) (.slice none 0 0) (.slice A4 k c4) (.slice none 0 0) HS.out.1 (Nat.le_refl _) HB.out
    have hk5:Keep (fun q=>q=w.heap.size) wr (((((wr.setCell ⟨w.heap.size,0,none⟩ (.int .i64 2)).setCell ⟨w.heap.size,1,none⟩ (.int .i64 2)).setCell ⟨w.heap.size,2,none⟩ (.slice none 0 0)).setCell ⟨w.heap.size,3,none⟩ (.slice A4 k c4)).setCell ⟨w.heap.size,4,none⟩ (.slice none 0 0)) :=
     ((((((Keep.refl (fun q=>q=w.heap.size) wr).setCell (p:=⟨w.heap.size,0,none⟩) (.inl rfl) _).setCell (p:=⟨w.heap.size,1,none⟩) (.inl rfl) _).setCell (p:=⟨w.heap.size,2,none⟩) (.inl rfl) _).setCell (p:=⟨w.heap.size,3,none⟩) (.inl rfl) _).setCell (p:=⟨w.heap.size,4,none⟩) (.inl rfl) _)
    have ho5:=zF HS.out.2.2 hk5 (fun q hq=>by have:=(HS.out.2.2.lt q hq).1;omega)
    clear hk5
    have HG5:=LH hg5
    have HW5:=LH hw5
    have HO5:=LH ho5
    clear hg5 hw5 ho5
    go_wp2
    revert HG5 HW5 HO5
    generalize (((((wr.setCell ⟨w.heap.size,0,none⟩ (.int .i64 2)).setCell ⟨w.heap.size,1,none⟩ (.int .i64 2)).setCell ⟨w.heap.size,2,none⟩ (.slice none 0 0)).setCell ⟨w.heap.size,3,none⟩ (.slice A4 k c4)).setCell ⟨w.heap.size,4,none⟩ (.slice none 0 0))=w5
    intro HG5 HW5 HO5
    have HFIN:Hid (TreePost deep (l.length+1) l.length v w (.returned (.tuple #[.agg #[qQ,qQ,qI,.slice A4 k c4,qI],.slice (some ⟨ad.block,ad.off+1,none⟩) (n-1) (c-1)])) w5):=by
     have hs:=HT.out
     rw [HLN.out] at hs ⊢
     refine LH ⟨.mk 2 2 [] (bytesT x k) [],none,A4,none,0,c4,0,l,_,_,by simp [Tr.kind,Tr.size,Tr.ws,Tr.bs,Tr.kids,zS],HG5.out,?_,.mk (fun _ h=>by cases h) (zkB x k) (fun _ h=>by cases h),.mk (by simp) (by rw [zS];omega) (by simp) (fun _ h=>by cases h),hs,Nat.le_refl _,hu,TreeN.leaf rfl HD0.out (by simp [ownT,ownB,Tr.kind,Tr.size,Tr.ws,Tr.bs,Tr.kids,zS];omega) (by simp [needN,Tr.kind,Tr.ws,Tr.bs,Tr.kids,zS];have:=HMM.out;omega) (Nat.le_refl _)⟩
     exact ((Foot.of_own HO5.out).imp (fun W hs=>by
      show TrR W _ (.slice none 0 0) (.slice A4 (bytesT x k).length c4) (.slice none 0 0)
      rw [zS]
      exact .mk (rows:=[]) (zZ _ _) (by rw [zS];exact hs) (zZ _ _) (fun r h=>by cases h))).mono (fun k h=>h.2) (fun q hq=>⟨by have:=(HO5.out.lt q hq).1;omega,(HO5.out.lt q hq).2⟩)
    obtain ⟨hf0,hf1,hf2,hf3,hf4,hfr⟩:=zA HW5.out
    refine bodyPost_ret (v:=.tuple #[.agg #[qQ,qQ,qI,.slice A4 k c4,qI],.slice (some ⟨ad.block,ad.off+1,none⟩) (n-1) (c-1)]) ?_ rfl HFIN.out
    rw [results_cell_tmp rfl];go_simp
theorem zeJ (x:Int) (ad:Addr) (deep:Nat) (v w:World) (hv:Grow v w) (h:SliceR 1 (.slice (some ad) 1 1) 1 (u8s [x]) v) (hx:0≤x∧x≤255) (hd:deep≠0) (m:Nat) (hmm:(m:Int)=3*(x/8%5)+x%2) (hm:x%8=1∨x%8=2) :
    Calls Tryz.prog 56 #[(.slice (some ad) 1 1),.int .i64 deep] w (TreePost deep (([]:List Int).length+1) ([]:List Int).length v w):=by
 have HD0:=LH hd
 have HT:Hid (SliceR 1 (.slice (some ad) 0 0) 0 (u8s []) v):=LH ⟨some ad,0,rfl,Nat.le_refl _,by simp [u8s],fun _=>rfl,fun j u hu=>by simp [u8s] at hu⟩
 have hcell0:v.cell? ad=some (.int .u8 x):=by
  obtain ⟨A9,c9,e9,_,_,_,hq⟩:=h
  injection e9 with e9 _ _
  obtain ⟨a9,e8,hc⟩:=hq 0 (.int .u8 x) rfl
  rw [← e9] at e8
  injection e8 with e8
  subst e8
  rw [Addr.add_zero'] at hc
  exact hc
 have hcell:=hv.cell hcell0 (fun h=>h)
 clear hcell0 hv
 have hu:okU []:=fun y hy=>by cases hy
 have hn:0=([]:List Int).length:=rfl
 have hdq:(((deep:Nat):Int)==0)=false:=beq_eq_false_iff_ne.2 (by omega)
 have hmb:(x%8==0)=false:=beq_eq_false_iff_ne.2 (by omega)
 have HMM:=LH hmm
 have hm9:m≤20:=by omega
 have hga:=(Keep.refl NoB w).alloc (.cells qA 114)
 have hgb:=hga.alloc (.cells qA 114)
 have hcell2:=hga.cell hcell (fun h=>h)
 have HX:Hid (0≤x∧x≤255):=LH hx
 obtain ⟨hx1,hx2⟩:=hx
 rcases hm with hm | hm
 ·have hm1:(x%8==1)=true:=beq_iff_eq.2 hm
  clear h hm hmm hd hn hcell hga hgb
  go_enter Tryz.func56,Tryz.ntmps56
  go_wp2_with fail
  have hy1:0≤x/8%5:=by omega
  have hy2:x/8%5≤4:=by omega
  have hz1:0≤x%2:=by omega
  have hz2:x%2≤1:=by omega
  go_loopw [9] (fun v wr=>∃ k:Nat,k≤m∧v=.int .i64 k∧∃ A4 c4,wr.heap[w.heap.size]? = some (.cells qA 114 (0,0))∧wr.heap[w.heap.size+1]? = some (.cells #[qQ,qQ,qI,.slice A4 k c4,qI] 114 (0,0))∧Hid (Grow w wr∧w.heap.size+2≤wr.heap.size∧wr.ownsRow (w.heap.size+2) 5 1 (.slice A4 k c4) k (u8s (bytesT x k)))) (fun v _=>m-(intOf v).toNat)
  case atStart=>exact ⟨0,by omega,rfl,none,0,(zQ w _ _).1,(zQ w _ _).2.1,((Keep.refl NoB w).alloc _).alloc _,Nat.le_of_eq (zQ w _ _).2.2.symm,World.ownsRow_nil _ (w.heap.size+2) 5 1⟩
  case round =>
   obtain ⟨k,hk,rfl,A4,c4,hb4,hb7,HS⟩:=hrel
   have hwa:IntKind.i64.wrap (3*(x/8%5))=3*(x/8%5):=IntWalk.i64_in _ (by omega)
   have hwb:IntKind.i64.wrap (3*(x/8%5)+x%2)=3*(x/8%5)+x%2:=IntWalk.i64_in _ (by omega)
   have hd0:wr.cell? ⟨w.heap.size+1,0,none⟩=_:=World.news_of_block hb7 0 _ rfl
   have hd1:wr.cell? ⟨w.heap.size+1,1,none⟩=_:=World.news_of_block hb7 1 _ rfl
   have hd2:wr.cell? ⟨w.heap.size+1,2,none⟩=_:=World.news_of_block hb7 2 _ rfl
   have hd3:wr.cell? ⟨w.heap.size+1,3,none⟩=_:=World.news_of_block hb7 3 _ rfl
   have hd4:wr.cell? ⟨w.heap.size+1,4,none⟩=_:=World.news_of_block hb7 4 _ rfl
   by_cases hlt:k<m
   ·have hw:IntKind.i64.wrap ((k:Int)+1)=(k:Int)+1:=IntWalk.i64_in _ (by omega)
    have hlt':(k:Int)<3*(x/8%5)+x%2:=by have:=HMM.out;omega
    have hk9:(k:Int)≤255:=by omega
    have E1:=LH (zbB x k)
    go_wp2_with (at_builtin;refine zL _ rfl _ _ 23 23 rfl (w.heap.size+2) 5 (.int .u8 0) 1 1 zW zz rfl (.slice A4 k c4) k (u8s (bytesT x k)) rfl (.slice (some ⟨wr.heap.size,0,none⟩) 1 1) 1 [.int .u8 ((x+k)%256)] rfl ?_ (by exact zF HS.out.2.2 ((Keep.refl NoB wr).alloc _) (fun _ _ h=>h)) (by exact Src.ofSlice _ zW ⟨wr.heap.size,0,none⟩ 1 1 _ rfl (World.news_of_block (cs:=#[.int .u8 ((x+k)%256)]) (t:=5) (fr:=(0,0)) (heap_alloc_new wr _)) (by simp [Value.oneCell'])) (by simp only [maxLen];omega) (by omega) (by have:=HS.out.2.1;simp;omega);intro v3 w3 hap;refine Hid.out ?_)
    refine LH ?_
    have Hg3:Hid (Grow w w3∧w.heap.size+2≤w3.heap.size):=⟨((((HS.out.1.mono (T:=fun k=>w.heap.size+2≤k) (fun _ h=>h.elim)).alloc _).grown hap.grew (fun k hk=>.inl (HS.out.2.2.lt k hk).1))).new (fun _ h=>by omega),by have h1:=HS.out.2.1;have h2:=hap.grew.size;simp at h2;omega⟩
    have HK:=((Keep.refl (fun k=>w.heap.size+2≤k) wr).alloc (.cells #[.int .u8 ((x+k)%256)] 5)).grown hap.grew (fun k hk=>.inl (HS.out.2.2.lt k hk).1)
    have hs2:=HS.out.2.1
    have hc4:=(HK.block w.heap.size (by omega) (by omega)).trans hb4
    have hc7:=(HK.block (w.heap.size+1) (by omega) (by omega)).trans hb7
    have Ho3:=LH hap.own
    obtain ⟨A6,c6,rfl,_⟩:=zK hap.own
    have hlb:∀ q,(Value.slice A6 (k+1) c6).ownBlock=some q→w.heap.size+2≤q:=fun q hq=>(hap.own.lt q hq).1
    clear hap HK
    rw [← E1.out] at Ho3
    have hd3':w3.cell? ⟨w.heap.size+1,3,none⟩=_:=World.news_of_block hc7 3 _ rfl
    have hfr:∀ o,w3.frozen? ⟨w.heap.size+1,o,none⟩=false:=fun o=>zN o hc7
    have Hc:=LH hc4
    have Hc':=LH hc7
    have Hlb:=LH hlb
    clear hd0 hd1 hd2 hd3 hd4 hb4 hb7 hc4 hc7 hlb
    go_wp2
    go_roundw
    case rel =>
     have hkk:Keep (fun q=>q=w.heap.size+1) w3 (w3.setCell ⟨w.heap.size+1,3,none⟩ (.slice A6 (k+1) c6)):=(Keep.refl (fun q=>q=w.heap.size+1) w3).setCell (p:=⟨w.heap.size+1,3,none⟩) (.inl rfl) _
     refine ⟨k+1,by omega,by go_num,A6,c6,(hkk.block w.heap.size (by have:=Hg3.out.2;omega) (by simp)).trans Hc.out,?_,Hg3.out.1.setCell (.inr (by simp)) _,Nat.le_trans Hg3.out.2 hkk.size,zF Ho3.out hkk (fun q hq=>by have:=Hlb.out q hq;omega)⟩
     have hq:=Hc'.out
     simp only [World.setCell,Array.getElem?_modify]
     simp [hq]
    case measure=>simp [intOf];omega
   ·obtain rfl:k=m:=by omega
    have hlt':¬ ((k:Int)<3*(x/8%5)+x%2):=by have:=HMM.out;omega
    have hf0:wr.cell? ⟨w.heap.size,0,none⟩=_:=World.news_of_block hb4 0 _ rfl
    have hf1:wr.cell? ⟨w.heap.size,1,none⟩=_:=World.news_of_block hb4 1 _ rfl
    have hf2:wr.cell? ⟨w.heap.size,2,none⟩=_:=World.news_of_block hb4 2 _ rfl
    have hf3:wr.cell? ⟨w.heap.size,3,none⟩=_:=World.news_of_block hb4 3 _ rfl
    have hf4:wr.cell? ⟨w.heap.size,4,none⟩=_:=World.news_of_block hb4 4 _ rfl
    have hfr:∀ o,wr.frozen? ⟨w.heap.size,o,none⟩=false:=fun o=>zN o hb4
    have HB:=LH hb4
    clear hb4 hb7
    obtain ⟨hw5,hg5⟩:=zY (.int .i64 2) (.int .i64 2) (.slice none 0 0) (.slice A4 k c4) (.slice none 0 0) HS.out.1 (Nat.le_refl _) HB.out
    have hk5:Keep (fun q=>q=w.heap.size) wr (((((wr.setCell ⟨w.heap.size,0,none⟩ (.int .i64 2)).setCell ⟨w.heap.size,1,none⟩ (.int .i64 2)).setCell ⟨w.heap.size,2,none⟩ (.slice none 0 0)).setCell ⟨w.heap.size,3,none⟩ (.slice A4 k c4)).setCell ⟨w.heap.size,4,none⟩ (.slice none 0 0)) :=
     ((((((Keep.refl (fun q=>q=w.heap.size) wr).setCell (p:=⟨w.heap.size,0,none⟩) (.inl rfl) _).setCell (p:=⟨w.heap.size,1,none⟩) (.inl rfl) _).setCell (p:=⟨w.heap.size,2,none⟩) (.inl rfl) _).setCell (p:=⟨w.heap.size,3,none⟩) (.inl rfl) _).setCell (p:=⟨w.heap.size,4,none⟩) (.inl rfl) _)
    have ho5:=zF HS.out.2.2 hk5 (fun q hq=>by have:=(HS.out.2.2.lt q hq).1;omega)
    clear hk5
    have HG5:=LH hg5
    have HW5:=LH hw5
    have HO5:=LH ho5
    clear hg5 hw5 ho5
    go_wp2
    revert HG5 HW5 HO5
    generalize (((((wr.setCell ⟨w.heap.size,0,none⟩ (.int .i64 2)).setCell ⟨w.heap.size,1,none⟩ (.int .i64 2)).setCell ⟨w.heap.size,2,none⟩ (.slice none 0 0)).setCell ⟨w.heap.size,3,none⟩ (.slice A4 k c4)).setCell ⟨w.heap.size,4,none⟩ (.slice none 0 0))=w5
    intro HG5 HW5 HO5
    have HFIN:Hid (TreePost deep (([]:List Int).length+1) ([]:List Int).length v w (.returned (.tuple #[.agg #[qQ,qQ,qI,.slice A4 k c4,qI],.slice (some ad) 0 0])) w5):=by
     have hs:=HT.out
     skip
     refine LH ⟨.mk 2 2 [] (bytesT x k) [],none,A4,none,0,c4,0,([]:List Int),_,_,by simp [Tr.kind,Tr.size,Tr.ws,Tr.bs,Tr.kids,zS],HG5.out,?_,.mk (fun _ h=>by cases h) (zkB x k) (fun _ h=>by cases h),.mk (by simp) (by rw [zS];omega) (by simp) (fun _ h=>by cases h),hs,Nat.le_refl _,hu,TreeN.leaf rfl HD0.out (by simp [ownT,ownB,Tr.kind,Tr.size,Tr.ws,Tr.bs,Tr.kids,zS];omega) (by simp [needN,Tr.kind,Tr.ws,Tr.bs,Tr.kids,zS];have:=HMM.out;omega) (Nat.le_refl _)⟩
     exact ((Foot.of_own HO5.out).imp (fun W hs=>by
      show TrR W _ (.slice none 0 0) (.slice A4 (bytesT x k).length c4) (.slice none 0 0)
      rw [zS]
      exact .mk (rows:=[]) (zZ _ _) (by rw [zS];exact hs) (zZ _ _) (fun r h=>by cases h))).mono (fun k h=>h.2) (fun q hq=>⟨by have:=(HO5.out.lt q hq).1;omega,(HO5.out.lt q hq).2⟩)
    obtain ⟨hf0,hf1,hf2,hf3,hf4,hfr⟩:=zA HW5.out
    refine bodyPost_ret (v:=.tuple #[.agg #[qQ,qQ,qI,.slice A4 k c4,qI],.slice (some ad) 0 0]) ?_ rfl HFIN.out
    rw [results_cell_tmp rfl];go_simp
 ·have hm1:(x%8==1)=false:=beq_eq_false_iff_ne.2 (by omega)
  have hm2:(x%8==2)=true:=beq_iff_eq.2 hm
  clear h hm hmm hd hn hcell hga hgb
  go_enter Tryz.func56,Tryz.ntmps56
  go_wp2_with fail
  have hy1:0≤x/8%5:=by omega
  have hy2:x/8%5≤4:=by omega
  have hz1:0≤x%2:=by omega
  have hz2:x%2≤1:=by omega
  go_loopw [9] (fun v wr=>∃ k:Nat,k≤m∧v=.int .i64 k∧∃ A4 c4,wr.heap[w.heap.size]? = some (.cells qA 114 (0,0))∧wr.heap[w.heap.size+1]? = some (.cells #[qQ,qQ,qI,.slice A4 k c4,qI] 114 (0,0))∧Hid (Grow w wr∧w.heap.size+2≤wr.heap.size∧wr.ownsRow (w.heap.size+2) 5 1 (.slice A4 k c4) k (u8s (bytesT x k)))) (fun v _=>m-(intOf v).toNat)
  case atStart=>exact ⟨0,by omega,rfl,none,0,(zQ w _ _).1,(zQ w _ _).2.1,((Keep.refl NoB w).alloc _).alloc _,Nat.le_of_eq (zQ w _ _).2.2.symm,World.ownsRow_nil _ (w.heap.size+2) 5 1⟩
  case round =>
   obtain ⟨k,hk,rfl,A4,c4,hb4,hb7,HS⟩:=hrel
   have hwa:IntKind.i64.wrap (3*(x/8%5))=3*(x/8%5):=IntWalk.i64_in _ (by omega)
   have hwb:IntKind.i64.wrap (3*(x/8%5)+x%2)=3*(x/8%5)+x%2:=IntWalk.i64_in _ (by omega)
   have hd0:wr.cell? ⟨w.heap.size+1,0,none⟩=_:=World.news_of_block hb7 0 _ rfl
   have hd1:wr.cell? ⟨w.heap.size+1,1,none⟩=_:=World.news_of_block hb7 1 _ rfl
   have hd2:wr.cell? ⟨w.heap.size+1,2,none⟩=_:=World.news_of_block hb7 2 _ rfl
   have hd3:wr.cell? ⟨w.heap.size+1,3,none⟩=_:=World.news_of_block hb7 3 _ rfl
   have hd4:wr.cell? ⟨w.heap.size+1,4,none⟩=_:=World.news_of_block hb7 4 _ rfl
   by_cases hlt:k<m
   ·have hw:IntKind.i64.wrap ((k:Int)+1)=(k:Int)+1:=IntWalk.i64_in _ (by omega)
    have hlt':(k:Int)<3*(x/8%5)+x%2:=by have:=HMM.out;omega
    have hk9:(k:Int)≤255:=by omega
    have E1:=LH (zbB x k)
    go_wp2_with (at_builtin;refine zL _ rfl _ _ 23 23 rfl (w.heap.size+2) 5 (.int .u8 0) 1 1 zW zz rfl (.slice A4 k c4) k (u8s (bytesT x k)) rfl (.slice (some ⟨wr.heap.size,0,none⟩) 1 1) 1 [.int .u8 ((x+k)%256)] rfl ?_ (by exact zF HS.out.2.2 ((Keep.refl NoB wr).alloc _) (fun _ _ h=>h)) (by exact Src.ofSlice _ zW ⟨wr.heap.size,0,none⟩ 1 1 _ rfl (World.news_of_block (cs:=#[.int .u8 ((x+k)%256)]) (t:=5) (fr:=(0,0)) (heap_alloc_new wr _)) (by simp [Value.oneCell'])) (by simp only [maxLen];omega) (by omega) (by have:=HS.out.2.1;simp;omega);intro v3 w3 hap;refine Hid.out ?_)
    refine LH ?_
    have Hg3:Hid (Grow w w3∧w.heap.size+2≤w3.heap.size):=⟨((((HS.out.1.mono (T:=fun k=>w.heap.size+2≤k) (fun _ h=>h.elim)).alloc _).grown hap.grew (fun k hk=>.inl (HS.out.2.2.lt k hk).1))).new (fun _ h=>by omega),by have h1:=HS.out.2.1;have h2:=hap.grew.size;simp at h2;omega⟩
    have HK:=((Keep.refl (fun k=>w.heap.size+2≤k) wr).alloc (.cells #[.int .u8 ((x+k)%256)] 5)).grown hap.grew (fun k hk=>.inl (HS.out.2.2.lt k hk).1)
    have hs2:=HS.out.2.1
    have hc4:=(HK.block w.heap.size (by omega) (by omega)).trans hb4
    have hc7:=(HK.block (w.heap.size+1) (by omega) (by omega)).trans hb7
    have Ho3:=LH hap.own
    obtain ⟨A6,c6,rfl,_⟩:=zK hap.own
    have hlb:∀ q,(Value.slice A6 (k+1) c6).ownBlock=some q→w.heap.size+2≤q:=fun q hq=>(hap.own.lt q hq).1
    clear hap HK
    rw [← E1.out] at Ho3
    have hd3':w3.cell? ⟨w.heap.size+1,3,none⟩=_:=World.news_of_block hc7 3 _ rfl
    have hfr:∀ o,w3.frozen? ⟨w.heap.size+1,o,none⟩=false:=fun o=>zN o hc7
    have Hc:=LH hc4
    have Hc':=LH hc7
    have Hlb:=LH hlb
    clear hd0 hd1 hd2 hd3 hd4 hb4 hb7 hc4 hc7 hlb
    go_wp2
    go_roundw
    case rel =>
     have hkk:Keep (fun q=>q=w.heap.size+1) w3 (w3.setCell ⟨w.heap.size+1,3,none⟩ (.slice A6 (k+1) c6)):=(Keep.refl (fun q=>q=w.heap.size+1) w3).setCell (p:=⟨w.heap.size+1,3,none⟩) (.inl rfl) _
     refine ⟨k+1,by omega,by go_num,A6,c6,(hkk.block w.heap.size (by have:=Hg3.out.2;omega) (by simp)).trans Hc.out,?_,Hg3.out.1.setCell (.inr (by simp)) _,Nat.le_trans Hg3.out.2 hkk.size,zF Ho3.out hkk (fun q hq=>by have:=Hlb.out q hq;omega)⟩
     have hq:=Hc'.out
     simp only [World.setCell,Array.getElem?_modify]
     simp [hq]
    case measure=>simp [intOf];omega
   ·obtain rfl:k=m:=by omega
    have hlt':¬ ((k:Int)<3*(x/8%5)+x%2):=by have:=HMM.out;omega
    have hf0:wr.cell? ⟨w.heap.size,0,none⟩=_:=World.news_of_block hb4 0 _ rfl
    have hf1:wr.cell? ⟨w.heap.size,1,none⟩=_:=World.news_of_block hb4 1 _ rfl
    have hf2:wr.cell? ⟨w.heap.size,2,none⟩=_:=World.news_of_block hb4 2 _ rfl
    have hf3:wr.cell? ⟨w.heap.size,3,none⟩=_:=World.news_of_block hb4 3 _ rfl
    have hf4:wr.cell? ⟨w.heap.size,4,none⟩=_:=World.news_of_block hb4 4 _ rfl
    have hfr:∀ o,wr.frozen? ⟨w.heap.size,o,none⟩=false:=fun o=>zN o hb4
    have HB:=LH hb4
    clear hb4 hb7
    obtain ⟨hw5,hg5⟩:=zY (.int .i64 2) (.int .i64 2) (.slice none 0 0) (.slice A4 k c4) (.slice none 0 0) HS.out.1 (Nat.le_refl _) HB.out
    have hk5:Keep (fun q=>q=w.heap.size) wr (((((wr.setCell ⟨w.heap.size,0,none⟩ (.int .i64 2)).setCell ⟨w.heap.size,1,none⟩ (.int .i64 2)).setCell ⟨w.heap.size,2,none⟩ (.slice none 0 0)).setCell ⟨w.heap.size,3,none⟩ (.slice A4 k c4)).setCell ⟨w.heap.size,4,none⟩ (.slice none 0 0)) :=
     ((((((Keep.refl (fun q=>q=w.heap.size) wr).setCell (p:=⟨w.heap.size,0,none⟩) (.inl rfl) _).setCell (p:=⟨w.heap.size,1,none⟩) (.inl rfl) _).setCell (p:=⟨w.heap.size,2,none⟩) (.inl rfl) _).setCell (p:=⟨w.heap.size,3,none⟩) (.inl rfl) _).setCell (p:=⟨w.heap.size,4,none⟩) (.inl rfl) _)
    have ho5:=zF HS.out.2.2 hk5 (fun q hq=>by have:=(HS.out.2.2.lt q hq).1;omega)
    clear hk5
    have HG5:=LH hg5
    have HW5:=LH hw5
    have HO5:=LH ho5
    clear hg5 hw5 ho5
    go_wp2
    revert HG5 HW5 HO5
    generalize (((((wr.setCell ⟨w.heap.size,0,none⟩ (.int .i64 2)).setCell ⟨w.heap.size,1,none⟩ (.int .i64 2)).setCell ⟨w.heap.size,2,none⟩ (.slice none 0 0)).setCell ⟨w.heap.size,3,none⟩ (.slice A4 k c4)).setCell ⟨w.heap.size,4,none⟩ (.slice none 0 0))=w5
    intro HG5 HW5 HO5
    have HFIN:Hid (TreePost deep (([]:List Int).length+1) ([]:List Int).length v w (.returned (.tuple #[.agg #[qQ,qQ,qI,.slice A4 k c4,qI],.slice (some ad) 0 0])) w5):=by
     have hs:=HT.out
     skip
     refine LH ⟨.mk 2 2 [] (bytesT x k) [],none,A4,none,0,c4,0,([]:List Int),_,_,by simp [Tr.kind,Tr.size,Tr.ws,Tr.bs,Tr.kids,zS],HG5.out,?_,.mk (fun _ h=>by cases h) (zkB x k) (fun _ h=>by cases h),.mk (by simp) (by rw [zS];omega) (by simp) (fun _ h=>by cases h),hs,Nat.le_refl _,hu,TreeN.leaf rfl HD0.out (by simp [ownT,ownB,Tr.kind,Tr.size,Tr.ws,Tr.bs,Tr.kids,zS];omega) (by simp [needN,Tr.kind,Tr.ws,Tr.bs,Tr.kids,zS];have:=HMM.out;omega) (Nat.le_refl _)⟩
     exact ((Foot.of_own HO5.out).imp (fun W hs=>by
      show TrR W _ (.slice none 0 0) (.slice A4 (bytesT x k).length c4) (.slice none 0 0)
      rw [zS]
      exact .mk (rows:=[]) (zZ _ _) (by rw [zS];exact hs) (zZ _ _) (fun r h=>by cases h))).mono (fun k h=>h.2) (fun q hq=>⟨by have:=(HO5.out.lt q hq).1;omega,(HO5.out.lt q hq).2⟩)
    obtain ⟨hf0,hf1,hf2,hf3,hf4,hfr⟩:=zA HW5.out
    refine bodyPost_ret (v:=.tuple #[.agg #[qQ,qQ,qI,.slice A4 k c4,qI],.slice (some ad) 0 0]) ?_ rfl HFIN.out
    rw [results_cell_tmp rfl];go_simp
end Go.Proofs.YtfkcpaahdlkcdaaGreat

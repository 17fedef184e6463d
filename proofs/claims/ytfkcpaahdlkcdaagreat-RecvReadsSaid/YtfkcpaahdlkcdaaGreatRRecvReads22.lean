import Derived.Test.YtfkcpaahdlkcdaaGreatRRecvReads21
set_option linter.unusedSimpArgs false
set_option linter.unusedVariables false
set_option maxRecDepth 100000
set_option maxHeartbeats 16000000
namespace Go.Proofs.YtfkcpaahdlkcdaaGreat
open Go.RowKit
def wdsT (x:Int) (n:Nat):List Int:=(List.range n).map (fun (i:Nat)=>IntKind.u64.wrap (IntKind.u64.wrap (x*81985529216486895)+i))
theorem zn (x:Int) (n:Nat):(wdsT x n).length=n:=by simp [wdsT]
theorem ztE (x:Int) (n:Nat):u64s (wdsT x (n+1))=u64s (wdsT x n)++[.int .u64 (IntKind.u64.wrap (IntKind.u64.wrap (x*81985529216486895)+n))]:=by
 simp [wdsT,u64s,List.range_succ]
theorem zHG (x:Int) (n:Nat):okW (wdsT x n):=by
 intro y hy
 simp only [wdsT,List.mem_map] at hy
 obtain ⟨i,_,rfl⟩:=hy
 first | exact zpB _ | (simp only [IntKind.wrap];omega) | (simp [IntKind.wrap,IntKind.signed,IntKind.bits];omega)
theorem zsK (x:Int) (l:List Int) (ad:Addr) (n c:Nat) (deep:Nat) (v w:World) (hv:Grow v w) (h:SliceR 1 (.slice (some ad) n c) n (u8s (x :: l)) v) (hn:n=l.length+1) (hl:l.length≤1000000) (hx:0≤x∧x≤255) (hu:okU l) (hd:deep≠0) (hc1:¬ (c=1)) (m:Nat) (hmm:(m:Int)=x/8%5) (hm:x%8=3) :
    Calls Tryz.prog 56 #[(.slice (some ad) n c),.int .i64 deep] w (TreePost deep (l.length+1) l.length v w):=by
 have HD0:=LH hd
 have HT:=LH (h.tail2 hn hc1)
 have hcell0:v.cell? ad=some (.int .u8 x):=by
  obtain ⟨A9,c9,e9,_,_,_,hq⟩:=h
  injection e9 with e9 _ _
  obtain ⟨a9,e8,hc⟩:=hq 0 (.int .u8 x) rfl
  rw [← e9] at e8
  injection e8 with e8
  subst e8
  rw [Addr.add_zero'] at hc
  exact hc
 have hcell:=hv.cell hcell0 (fun h=>h)
 clear hcell0 hv
 have hc:n≤c:=by
  obtain ⟨_,_,e,h2,_⟩:=h
  injection e with _ e2 e3
  omega
 have hq:(((n:Nat):Int)==0)=false:=beq_eq_false_iff_ne.2 (by omega)
 have hn1:(1:Int)≤n:=by omega
 have hn0:(0:Int)<n:=by omega
 have HN2:=LH hn
 have HLN:Hid (n-1=l.length):=LH (by omega)
 have hdq:(((deep:Nat):Int)==0)=false:=beq_eq_false_iff_ne.2 (by omega)
 have hmb:(x%8==0)=false:=beq_eq_false_iff_ne.2 (by omega)
 have HMM:=LH hmm
 have hm9:m≤20:=by omega
 have hga:=(Keep.refl NoB w).alloc (.cells qA 114)
 have hgb:=hga.alloc (.cells qA 114)
 have hcell2:=hga.cell hcell (fun h=>h)
 have HX:Hid (0≤x∧x≤255):=LH hx
 obtain ⟨hx1,hx2⟩:=hx
 ·have hm1:(x%8==1)=false:=beq_eq_false_iff_ne.2 (by omega)
  have hm2:(x%8==2)=false:=beq_eq_false_iff_ne.2 (by omega)
  have hm3:(x%8==3)=true:=beq_iff_eq.2 hm
  clear h hm hmm hd hn hcell hga hgb
  go_enter Tryz.func56,Tryz.ntmps56
  go_wp2_with fail
  have hy1:0≤x/8%5:=by omega
  have hy2:x/8%5≤4:=by omega
  have hz1:0≤x%2:=by omega
  have hz2:x%2≤1:=by omega
  go_loopw [10] (fun v wr=>∃ k:Nat,k≤m∧v=.int .i64 k∧∃ A4 c4,wr.heap[w.heap.size]? = some (.cells qA 114 (0,0))∧wr.heap[w.heap.size+1]? = some (.cells #[qQ,.int .i64 5,.slice A4 k c4,qI,qI] 114 (0,0))∧Hid (Grow w wr∧w.heap.size+2≤wr.heap.size∧wr.ownsRow (w.heap.size+2) 22 1 (.slice A4 k c4) k (u64s (wdsT x k)))) (fun v _=>m-(intOf v).toNat)
  case atStart=>exact ⟨0,by omega,rfl,none,0,(zQ w _ _).1,(zQ w _ _).2.1,((Keep.refl NoB w).alloc _).alloc _,Nat.le_of_eq (zQ w _ _).2.2.symm,World.ownsRow_nil _ (w.heap.size+2) 22 1⟩
  case round =>
   obtain ⟨k,hk,rfl,A4,c4,hb4,hb7,HS⟩:=hrel
   have hwa:IntKind.i64.wrap (3*(x/8%5))=3*(x/8%5):=IntWalk.i64_in _ (by omega)
   have hwb:IntKind.i64.wrap (x/8%5)=x/8%5:=IntWalk.i64_in _ (by omega)
   have hd0:wr.cell? ⟨w.heap.size+1,0,none⟩=_:=World.news_of_block hb7 0 _ rfl
   have hd1:wr.cell? ⟨w.heap.size+1,1,none⟩=_:=World.news_of_block hb7 1 _ rfl
   have hd2:wr.cell? ⟨w.heap.size+1,2,none⟩=_:=World.news_of_block hb7 2 _ rfl
   have hd3:wr.cell? ⟨w.heap.size+1,3,none⟩=_:=World.news_of_block hb7 3 _ rfl
   have hd4:wr.cell? ⟨w.heap.size+1,4,none⟩=_:=World.news_of_block hb7 4 _ rfl
   by_cases hlt:k<m
   ·have hw:IntKind.i64.wrap ((k:Int)+1)=(k:Int)+1:=IntWalk.i64_in _ (by omega)
    have hlt':(k:Int)<x/8%5:=by have:=HMM.out;omega
    have hk9:(k:Int)≤255:=by omega
    have E1:=LH (ztE x k)
    go_wp2_with (at_builtin;refine zL _ rfl _ _ 111 111 rfl (w.heap.size+2) 22 (.int .u64 0) 1 8 zCA zj rfl (.slice A4 k c4) k (u64s (wdsT x k)) rfl (.slice (some ⟨wr.heap.size,0,none⟩) 1 1) 1 [.int .u64 (IntKind.u64.wrap (IntKind.u64.wrap (x*81985529216486895)+k))] rfl ?_ (by exact zF HS.out.2.2 ((Keep.refl NoB wr).alloc _) (fun _ _ h=>h)) (by exact Src.ofSlice _ zCA ⟨wr.heap.size,0,none⟩ 1 1 _ rfl (World.news_of_block (cs:=#[.int .u64 (IntKind.u64.wrap (IntKind.u64.wrap (x*81985529216486895)+k))]) (t:=22) (fr:=(0,0)) (heap_alloc_new wr _)) (by simp [Value.oneCell'])) (by simp only [maxLen];omega) (by omega) (by have:=HS.out.2.1;simp;omega);intro v3 w3 hap;refine Hid.out ?_)
    refine LH ?_
    have Hg3:Hid (Grow w w3∧w.heap.size+2≤w3.heap.size):=⟨((((HS.out.1.mono (T:=fun k=>w.heap.size+2≤k) (fun _ h=>h.elim)).alloc _).grown hap.grew (fun k hk=>.inl (HS.out.2.2.lt k hk).1))).new (fun _ h=>by omega),by have h1:=HS.out.2.1;have h2:=hap.grew.size;simp at h2;omega⟩
    have HK:=((Keep.refl (fun k=>w.heap.size+2≤k) wr).alloc (.cells #[.int .u64 (IntKind.u64.wrap (IntKind.u64.wrap (x*81985529216486895)+k))] 22)).grown hap.grew (fun k hk=>.inl (HS.out.2.2.lt k hk).1)
    have hs2:=HS.out.2.1
    have hc4:=(HK.block w.heap.size (by omega) (by omega)).trans hb4
    have hc7:=(HK.block (w.heap.size+1) (by omega) (by omega)).trans hb7
    have Ho3:=LH hap.own
    obtain ⟨A6,c6,rfl,_⟩:=zK hap.own
    have hlb:∀ q,(Value.slice A6 (k+1) c6).ownBlock=some q→w.heap.size+2≤q:=fun q hq=>(hap.own.lt q hq).1
    clear hap HK
    rw [← E1.out] at Ho3
    have hd3':w3.cell? ⟨w.heap.size+1,2,none⟩=_:=World.news_of_block hc7 2 _ rfl
    have hfr:∀ o,w3.frozen? ⟨w.heap.size+1,o,none⟩=false:=fun o=>zN o hc7
    have Hc:=LH hc4
    have Hc':=LH hc7
    have Hlb:=LH hlb
    clear hd0 hd1 hd2 hd3 hd4 hb4 hb7 hc4 hc7 hlb
    go_wp2
    go_roundw
    case rel =>
     have hkk:Keep (fun q=>q=w.heap.size+1) w3 (w3.setCell ⟨w.heap.size+1,2,none⟩ (.slice A6 (k+1) c6)):=(Keep.refl (fun q=>q=w.heap.size+1) w3).setCell (p:=⟨w.heap.size+1,2,none⟩) (.inl rfl) _
     refine ⟨k+1,by omega,by go_num,A6,c6,(hkk.block w.heap.size (by have:=Hg3.out.2;omega) (by simp)).trans Hc.out,?_,Hg3.out.1.setCell (.inr (by simp)) _,Nat.le_trans Hg3.out.2 hkk.size,zF Ho3.out hkk (fun q hq=>by have:=Hlb.out q hq;omega)⟩
     have hq:=Hc'.out
     simp only [World.setCell,Array.getElem?_modify]
     simp [hq]
    case measure=>simp [intOf];omega
   ·obtain rfl:k=m:=by omega
    have hlt':¬ ((k:Int)<x/8%5):=by have:=HMM.out;omega
    have hf0:wr.cell? ⟨w.heap.size,0,none⟩=_:=World.news_of_block hb4 0 _ rfl
    have hf1:wr.cell? ⟨w.heap.size,1,none⟩=_:=World.news_of_block hb4 1 _ rfl
    have hf2:wr.cell? ⟨w.heap.size,2,none⟩=_:=World.news_of_block hb4 2 _ rfl
    have hf3:wr.cell? ⟨w.heap.size,3,none⟩=_:=World.news_of_block hb4 3 _ rfl
    have hf4:wr.cell? ⟨w.heap.size,4,none⟩=_:=World.news_of_block hb4 4 _ rfl
    have hfr:∀ o,wr.frozen? ⟨w.heap.size,o,none⟩=false:=fun o=>zN o hb4
    have HB:=LH hb4
    clear hb4 hb7
    obtain ⟨hw5,hg5⟩:=zY (.int .i64 2) (.int .i64 5) (.slice A4 k c4) (.slice none 0 0) (.slice none 0 0) HS.out.1 (Nat.le_refl _) HB.out
    have hk5:Keep (fun q=>q=w.heap.size) wr (((((wr.setCell ⟨w.heap.size,0,none⟩ (.int .i64 2)).setCell ⟨w.heap.size,1,none⟩ (.int .i64 5)).setCell ⟨w.heap.size,2,none⟩ (.slice A4 k c4)).setCell ⟨w.heap.size,3,none⟩ (.slice none 0 0)).setCell ⟨w.heap.size,4,none⟩ (.slice none 0 0)) :=
     ((((((Keep.refl (fun q=>q=w.heap.size) wr).setCell (p:=⟨w.heap.size,0,none⟩) (.inl rfl) _).setCell (p:=⟨w.heap.size,1,none⟩) (.inl rfl) _).setCell (p:=⟨w.heap.size,2,none⟩) (.inl rfl) _).setCell (p:=⟨w.heap.size,3,none⟩) (.inl rfl) _).setCell (p:=⟨w.heap.size,4,none⟩) (.inl rfl) _)
    have ho5:=zF HS.out.2.2 hk5 (fun q hq=>by have:=(HS.out.2.2.lt q hq).1;omega)
    clear hk5
    have HG5:=LH hg5
    have HW5:=LH hw5
    have HO5:=LH ho5
    clear hg5 hw5 ho5
    go_wp2
    revert HG5 HW5 HO5
    generalize (((((wr.setCell ⟨w.heap.size,0,none⟩ (.int .i64 2)).setCell ⟨w.heap.size,1,none⟩ (.int .i64 5)).setCell ⟨w.heap.size,2,none⟩ (.slice A4 k c4)).setCell ⟨w.heap.size,3,none⟩ (.slice none 0 0)).setCell ⟨w.heap.size,4,none⟩ (.slice none 0 0))=w5
    intro HG5 HW5 HO5
    have HFIN:Hid (TreePost deep (l.length+1) l.length v w (.returned (.tuple #[.agg #[qQ,.int .i64 5,.slice A4 k c4,qI,qI],.slice (some ⟨ad.block,ad.off+1,none⟩) (n-1) (c-1)])) w5):=by
     have hs:=HT.out
     rw [HLN.out] at hs ⊢
     refine LH ⟨.mk 2 5 (wdsT x k) [] [],A4,none,none,c4,0,0,l,_,_,by simp [Tr.kind,Tr.size,Tr.ws,Tr.bs,Tr.kids,zn],HG5.out,?_,.mk (zHG x k) (fun _ h=>by cases h) (fun _ h=>by cases h),.mk (by rw [zn];omega) (by simp) (by simp) (fun _ h=>by cases h),hs,Nat.le_refl _,hu,TreeN.leaf rfl HD0.out (by simp [ownT,ownB,Tr.kind,Tr.size,Tr.ws,Tr.bs,Tr.kids,zn];omega) (by simp [needN,Tr.kind,Tr.ws,Tr.bs,Tr.kids,zn];have:=HMM.out;omega) (Nat.le_refl _)⟩
     exact ((Foot.of_own HO5.out).imp (fun W hs=>by
      show TrR W _ (.slice A4 (wdsT x k).length c4) (.slice none 0 0) (.slice none 0 0)
      rw [zn]
      exact .mk (rows:=[]) (by rw [zn];exact hs) (zZ _ _) (zZ _ _) (fun r h=>by cases h))).mono (fun k h=>h.2) (fun q hq=>⟨by have:=(HO5.out.lt q hq).1;omega,(HO5.out.lt q hq).2⟩)
    obtain ⟨hf0,hf1,hf2,hf3,hf4,hfr⟩:=zA HW5.out
    refine bodyPost_ret (v:=.tuple #[.agg #[qQ,.int .i64 5,.slice A4 k c4,qI,qI],.slice (some ⟨ad.block,ad.off+1,none⟩) (n-1) (c-1)]) ?_ rfl HFIN.out
    rw [results_cell_tmp rfl];go_simp
theorem ztK (x:Int) (ad:Addr) (deep:Nat) (v w:World) (hv:Grow v w) (h:SliceR 1 (.slice (some ad) 1 1) 1 (u8s [x]) v) (hx:0≤x∧x≤255) (hd:deep≠0) (m:Nat) (hmm:(m:Int)=x/8%5) (hm:x%8=3) :
    Calls Tryz.prog 56 #[(.slice (some ad) 1 1),.int .i64 deep] w (TreePost deep (([]:List Int).length+1) ([]:List Int).length v w):=by
 have HD0:=LH hd
 have HT:Hid (SliceR 1 (.slice (some ad) 0 0) 0 (u8s []) v):=LH ⟨some ad,0,rfl,Nat.le_refl _,by simp [u8s],fun _=>rfl,fun j u hu=>by simp [u8s] at hu⟩
 have hcell0:v.cell? ad=some (.int .u8 x):=by
  obtain ⟨A9,c9,e9,_,_,_,hq⟩:=h
  injection e9 with e9 _ _
  obtain ⟨a9,e8,hc⟩:=hq 0 (.int .u8 x) rfl
  rw [← e9] at e8
  injection e8 with e8
  subst e8
  rw [Addr.add_zero'] at hc
  exact hc
 have hcell:=hv.cell hcell0 (fun h=>h)
 clear hcell0 hv
 have hu:okU []:=fun y hy=>by cases hy
 have hn:0=([]:List Int).length:=rfl
 have hdq:(((deep:Nat):Int)==0)=false:=beq_eq_false_iff_ne.2 (by omega)
 have hmb:(x%8==0)=false:=beq_eq_false_iff_ne.2 (by omega)
 have HMM:=LH hmm
 have hm9:m≤20:=by omega
 have hga:=(Keep.refl NoB w).alloc (.cells qA 114)
 have hgb:=hga.alloc (.cells qA 114)
 have hcell2:=hga.cell hcell (fun h=>h)
 have HX:Hid (0≤x∧x≤255):=LH hx
 obtain ⟨hx1,hx2⟩:=hx
 ·have hm1:(x%8==1)=false:=beq_eq_false_iff_ne.2 (by omega)
  have hm2:(x%8==2)=false:=beq_eq_false_iff_ne.2 (by omega)
  have hm3:(x%8==3)=true:=beq_iff_eq.2 hm
  clear h hm hmm hd hn hcell hga hgb
  go_enter Tryz.func56,Tryz.ntmps56
  go_wp2_with fail
  have hy1:0≤x/8%5:=by omega
  have hy2:x/8%5≤4:=by omega
  have hz1:0≤x%2:=by omega
  have hz2:x%2≤1:=by omega
  go_loopw [10] (fun v wr=>∃ k:Nat,k≤m∧v=.int .i64 k∧∃ A4 c4,wr.heap[w.heap.size]? = some (.cells qA 114 (0,0))∧wr.heap[w.heap.size+1]? = some (.cells #[qQ,.int .i64 5,.slice A4 k c4,qI,qI] 114 (0,0))∧Hid (Grow w wr∧w.heap.size+2≤wr.heap.size∧wr.ownsRow (w.heap.size+2) 22 1 (.slice A4 k c4) k (u64s (wdsT x k)))) (fun v _=>m-(intOf v).toNat)
  case atStart=>exact ⟨0,by omega,rfl,none,0,(zQ w _ _).1,(zQ w _ _).2.1,((Keep.refl NoB w).alloc _).alloc _,Nat.le_of_eq (zQ w _ _).2.2.symm,World.ownsRow_nil _ (w.heap.size+2) 22 1⟩
  case round =>
   obtain ⟨k,hk,rfl,A4,c4,hb4,hb7,HS⟩:=hrel
   have hwa:IntKind.i64.wrap (3*(x/8%5))=3*(x/8%5):=IntWalk.i64_in _ (by omega)
   have hwb:IntKind.i64.wrap (x/8%5)=x/8%5:=IntWalk.i64_in _ (by omega)
   have hd0:wr.cell? ⟨w.heap.size+1,0,none⟩=_:=World.news_of_block hb7 0 _ rfl
   have hd1:wr.cell? ⟨w.heap.size+1,1,none⟩=_:=World.news_of_block hb7 1 _ rfl
   have hd2:wr.cell? ⟨w.heap.size+1,2,none⟩=_:=World.news_of_block hb7 2 _ rfl
   have hd3:wr.cell? ⟨w.heap.size+1,3,none⟩=_:=World.news_of_block hb7 3 _ rfl
   have hd4:wr.cell? ⟨w.heap.size+1,4,none⟩=_:=World.news_of_block hb7 4 _ rfl
   by_cases hlt:k<m
   ·have hw:IntKind.i64.wrap ((k:Int)+1)=(k:Int)+1:=IntWalk.i64_in _ (by omega)
    have hlt':(k:Int)<x/8%5:=by have:=HMM.out;omega
    have hk9:(k:Int)≤255:=by omega
    have E1:=LH (ztE x k)
    go_wp2_with (at_builtin;refine zL _ rfl _ _ 111 111 rfl (w.heap.size+2) 22 (.int .u64 0) 1 8 zCA zj rfl (.slice A4 k c4) k (u64s (wdsT x k)) rfl (.slice (some ⟨wr.heap.size,0,none⟩) 1 1) 1 [.int .u64 (IntKind.u64.wrap (IntKind.u64.wrap (x*81985529216486895)+k))] rfl ?_ (by exact zF HS.out.2.2 ((Keep.refl NoB wr).alloc _) (fun _ _ h=>h)) (by exact Src.ofSlice _ zCA ⟨wr.heap.size,0,none⟩ 1 1 _ rfl (World.news_of_block (cs:=#[.int .u64 (IntKind.u64.wrap (IntKind.u64.wrap (x*81985529216486895)+k))]) (t:=22) (fr:=(0,0)) (heap_alloc_new wr _)) (by simp [Value.oneCell'])) (by simp only [maxLen];omega) (by omega) (by have:=HS.out.2.1;simp;omega);intro v3 w3 hap;refine Hid.out ?_)
    refine LH ?_
    have Hg3:Hid (Grow w w3∧w.heap.size+2≤w3.heap.size):=⟨((((HS.out.1.mono (T:=fun k=>w.heap.size+2≤k) (fun _ h=>h.elim)).alloc _).grown hap.grew (fun k hk=>.inl (HS.out.2.2.lt k hk).1))).new (fun _ h=>by omega),by have h1:=HS.out.2.1;have h2:=hap.grew.size;simp at h2;omega⟩
    have HK:=((Keep.refl (fun k=>w.heap.size+2≤k) wr).alloc (.cells #[.int .u64 (IntKind.u64.wrap (IntKind.u64.wrap (x*81985529216486895)+k))] 22)).grown hap.grew (fun k hk=>.inl (HS.out.2.2.lt k hk).1)
    have hs2:=HS.out.2.1
    have hc4:=(HK.block w.heap.size (by omega) (by omega)).trans hb4
    have hc7:=(HK.block (w.heap.size+1) (by omega) (by omega)).trans hb7
    have Ho3:=LH hap.own
    obtain ⟨A6,c6,rfl,_⟩:=zK hap.own
    have hlb:∀ q,(Value.slice A6 (k+1) c6).ownBlock=some q→w.heap.size+2≤q:=fun q hq=>(hap.own.lt q hq).1
    clear hap HK
    rw [← E1.out] at Ho3
    have hd3':w3.cell? ⟨w.heap.size+1,2,none⟩=_:=World.news_of_block hc7 2 _ rfl
    have hfr:∀ o,w3.frozen? ⟨w.heap.size+1,o,none⟩=false:=fun o=>zN o hc7
    have Hc:=LH hc4
    have Hc':=LH hc7
    have Hlb:=LH hlb
    clear hd0 hd1 hd2 hd3 hd4 hb4 hb7 hc4 hc7 hlb
    go_wp2
    go_roundw
    case rel =>
     have hkk:Keep (fun q=>q=w.heap.size+1) w3 (w3.setCell ⟨w.heap.size+1,2,none⟩ (.slice A6 (k+1) c6)):=(Keep.refl (fun q=>q=w.heap.size+1) w3).setCell (p:=⟨w.heap.size+1,2,none⟩) (.inl rfl) _
     refine ⟨k+1,by omega,by go_num,A6,c6,(hkk.block w.heap.size (by have:=Hg3.out.2;omega) (by simp)).trans Hc.out,?_,Hg3.out.1.setCell (.inr (by simp)) _,Nat.le_trans Hg3.out.2 hkk.size,zF Ho3.out hkk (fun q hq=>by have:=Hlb.out q hq;omega)⟩
     have hq:=Hc'.out
     simp only [World.setCell,Array.getElem?_modify]
     simp [hq]
    case measure=>simp [intOf];omega
   ·obtain rfl:k=m:=by omega
    have hlt':¬ ((k:Int)<x/8%5):=by have:=HMM.out;omega
    have hf0:wr.cell? ⟨w.heap.size,0,none⟩=_:=World.news_of_block hb4 0 _ rfl
    have hf1:wr.cell? ⟨w.heap.size,1,none⟩=_:=World.news_of_block hb4 1 _ rfl
    have hf2:wr.cell? ⟨w.heap.size,2,none⟩=_:=World.news_of_block hb4 2 _ rfl
    have hf3:wr.cell? ⟨w.heap.size,3,none⟩=_:=World.news_of_block hb4 3 _ rfl
    have hf4:wr.cell? ⟨w.heap.size,4,none⟩=_:=World.news_of_block hb4 4 _ rfl
    have hfr:∀ o,wr.frozen? ⟨w.heap.size,o,none⟩=false:=fun o=>zN o hb4
    have HB:=LH hb4
    clear hb4 hb7
    obtain ⟨hw5,hg5⟩:=zY (.int .i64 2) (.int .i64 5) (.slice A4 k c4) (.slice none 0 0) (.slice none 0 0) HS.out.1 (Nat.le_refl _) HB.out
    have hk5:Keep (fun q=>q=w.heap.size) wr (((((wr.setCell ⟨w.heap.size,0,none⟩ (.int .i64 2)).setCell ⟨w.heap.size,1,none⟩ (.int .i64 5)).setCell ⟨w.heap.size,2,none⟩ (.slice A4 k c4)).setCell ⟨w.heap.size,3,none⟩ (.slice none 0 0)).setCell ⟨w.heap.size,4,none⟩ (.slice none 0 0)) :=
     ((((((Keep.refl (fun q=>q=w.heap.size) wr).setCell (p:=⟨w.heap.size,0,none⟩) (.inl rfl) _).setCell (p:=⟨w.heap.size,1,none⟩) (.inl rfl) _).setCell (p:=⟨w.heap.size,2,none⟩) (.inl rfl) _).setCell (p:=⟨w.heap.size,3,none⟩) (.inl rfl) _).setCell (p:=⟨w.heap.size,4,none⟩) (.inl rfl) _)
    have ho5:=zF HS.out.2.2 hk5 (fun q hq=>by have:=(HS.out.2.2.lt q hq).1;omega)
    clear hk5
    have HG5:=LH hg5
    have HW5:=LH hw5
    have HO5:=LH ho5
    clear hg5 hw5 ho5
    go_wp2
    revert HG5 HW5 HO5
    generalize (((((wr.setCell ⟨w.heap.size,0,none⟩ (.int .i64 2)).setCell ⟨w.heap.size,1,none⟩ (.int .i64 5)).setCell ⟨w.heap.size,2,none⟩ (.slice A4 k c4)).setCell ⟨w.heap.size,3,none⟩ (.slice none 0 0)).setCell ⟨w.heap.size,4,none⟩ (.slice none 0 0))=w5
    intro HG5 HW5 HO5
    have HFIN:Hid (TreePost deep (([]:List Int).length+1) ([]:List Int).length v w (.returned (.tuple #[.agg #[qQ,.int .i64 5,.slice A4 k c4,qI,qI],.slice (some ad) 0 0])) w5):=by
     have hs:=HT.out
     skip
     refine LH ⟨.mk 2 5 (wdsT x k) [] [],A4,none,none,c4,0,0,([]:List Int),_,_,by simp [Tr.kind,Tr.size,Tr.ws,Tr.bs,Tr.kids,zn],HG5.out,?_,.mk (zHG x k) (fun _ h=>by cases h) (fun _ h=>by cases h),.mk (by rw [zn];omega) (by simp) (by simp) (fun _ h=>by cases h),hs,Nat.le_refl _,hu,TreeN.leaf rfl HD0.out (by simp [ownT,ownB,Tr.kind,Tr.size,Tr.ws,Tr.bs,Tr.kids,zn];omega) (by simp [needN,Tr.kind,Tr.ws,Tr.bs,Tr.kids,zn];have:=HMM.out;omega) (Nat.le_refl _)⟩
     exact ((Foot.of_own HO5.out).imp (fun W hs=>by
      show TrR W _ (.slice A4 (wdsT x k).length c4) (.slice none 0 0) (.slice none 0 0)
      rw [zn]
      exact .mk (rows:=[]) (by rw [zn];exact hs) (zZ _ _) (zZ _ _) (fun r h=>by cases h))).mono (fun k h=>h.2) (fun q hq=>⟨by have:=(HO5.out.lt q hq).1;omega,(HO5.out.lt q hq).2⟩)
    obtain ⟨hf0,hf1,hf2,hf3,hf4,hfr⟩:=zA HW5.out
    refine bodyPost_ret (v:=.tuple #[.agg #[qQ,.int .i64 5,.slice A4 k c4,qI,qI],.slice (some ad) 0 0]) ?_ rfl HFIN.out
    rw [results_cell_tmp rfl];go_simp
def FT (w:World) (v:Value) (c:World):Nat→Prop:=fun j=>w.heap.size+2≤j∧j<c.heap.size∧v.ownBlock≠some j
structure TK (d n:Nat) (v w:World) (K S:Int) (ws:List Int) (vw:Value) (k:Nat) (vk:Value) (rows:List (Tr×Value×Value×Value)) (l:List Int) (A:Option Addr) (ca:Nat) (c:World):Prop where
 res:c.heap[w.heap.size]? = some (.cells qA 114 (0,0))
 nod:c.heap[w.heap.size+1]? = some (.cells #[.int .i64 K,.int .i64 S,vw,qI,vk] 114 (0,0))
 keep:Grow w c
 len:rows.length=k
 own:c.ownsRow (w.heap.size+2) 114 5 vk k (kcs rows)
 foot:Foot (fun u=>SliceR 1 vw ws.length (u64s ws) u∧∀ r,r∈rows→TrR u r.1 r.2.1 r.2.2.1 r.2.2.2) c (FT w vk c)
 ok:∀ r,r∈rows→TrN r.1∧TrB r.1
 left:SliceR 1 (.slice A l.length ca) l.length (u8s l) v
 le:l.length≤n
 okl:okU l
 sm:∀ m,d≤m→(∀ r,r∈rows→rightB m r.1=true)∧(rows.map (fun r=>needL m r.1)).sum+7*l.length≤7*n
theorem TK.begin {d n:Nat} {v w:World} {K S:Int} {ws:List Int} {vw:Value} {l:List Int} {A:Option Addr} {ca:Nat} {c:World}
    (hr:c.heap[w.heap.size]? = some (.cells qA 114 (0,0)))
    (hn:c.heap[w.heap.size+1]? = some (.cells #[.int .i64 K,.int .i64 S,vw,qI,qI] 114 (0,0)))
    (hg:Grow w c) (hw:c.ownsRow (w.heap.size+2) 22 1 vw ws.length (u64s ws)) (left:SliceR 1 (.slice A l.length ca) l.length (u8s l) v) (le:l.length≤n) (okl:okU l) :
    TK d n v w K S ws vw 0 (.slice none 0 0) [] l A ca c:=by
 refine ⟨hr,hn,hg,rfl,World.ownsRow_nil _ _ _ _,?_,(fun r h=>by cases h),left,le,okl,fun m _=>⟨fun r h=>(by cases h),by simp;omega⟩⟩
 refine ((Foot.of_own hw).imp (fun u h=>⟨h,fun r hr=>by cases hr⟩)).mono (fun j hj=>hj.2.1) (fun j hj=>⟨(hw.lt j hj).1,(hw.lt j hj).2,by simp [Value.ownBlock]⟩)
structure TM (w:World) (K S:Int) (ws:List Int) (vw:Value) (k:Nat) (vk:Value) (rows:List (Tr×Value×Value×Value)) (kid:Tr×Value×Value×Value) (c:World):Prop where
 res:c.heap[w.heap.size]? = some (.cells qA 114 (0,0))
 nod:c.heap[w.heap.size+1]? = some (.cells #[.int .i64 K,.int .i64 S,vw,qI,vk] 114 (0,0))
 keep:Grow w c
 own:c.ownsRow (w.heap.size+2) 114 5 vk k (kcs rows)
 foot:Foot (fun u=>SliceR 1 vw ws.length (u64s ws) u∧∀ r,r∈rows++[kid]→TrR u r.1 r.2.1 r.2.2.1 r.2.2.2) c (FT w vk c)
theorem TM.grow {w:World} {K S:Int} {ws:List Int} {vw:Value} {k:Nat} {vk:Value} {rows:List (Tr×Value×Value×Value)} {kid:Tr×Value×Value×Value} {c c':World}
    (h:TM w K S ws vw k vk rows kid c) (hg:Grow c c'):TM w K S ws vw k vk rows kid c' :=
 ⟨Grow.heap hg h.res,Grow.heap hg h.nod,h.keep.grow hg,zF h.own hg (fun _ _ h=>h),(h.foot.grow hg).mono (fun j hj=>hj.2.1) (fun j hj=>⟨hj.1,Nat.lt_of_lt_of_le hj.2.1 hg.size,hj.2.2⟩)⟩
theorem TK.called {d n:Nat} {v w:World} {K S:Int} {ws:List Int} {vw:Value} {k:Nat} {vk:Value} {rows:List (Tr×Value×Value×Value)} {l:List Int} {A:Option Addr} {ca:Nat} {c c':World}
    (h:TK d n v w K S ws vw k vk rows l A ca c) {t:Tr} {xw xb xk:Value} (hg:Grow c c') (hf:Foot (fun u=>TrR u t xw xb xk) c' (fun j=>c.heap.size≤j∧j<c'.heap.size)) :
    TM w K S ws vw k vk rows (t,xw,xb,xk) c':=by
 have bN:w.heap.size+1<c.heap.size:=(gE h.nod).1
 refine ⟨Grow.heap hg h.res,Grow.heap hg h.nod,h.keep.grow hg,zF h.own hg (fun _ _ h=>h),?_⟩
 have f1:=h.foot.grow hg
 refine ((f1.and hf).imp (fun u hu=>⟨hu.1.1,fun r hr=>by
  rcases List.mem_append.1 hr with e | e
  ·exact hu.1.2 r e
  ·rw [List.mem_singleton.1 e];exact hu.2⟩)).mono (fun j hj=>hj.2.1) (fun j hj=>?_)
 rcases hj with hj | hj
 ·exact ⟨hj.1,Nat.lt_of_lt_of_le hj.2.1 hg.size,hj.2.2⟩
 ·exact ⟨by omega,hj.2,fun e=>by have:=(h.own.lt j e).2;omega⟩
theorem TM.appended {d n:Nat} {v w:World} {K S:Int} {ws:List Int} {vw:Value} {k:Nat} {vk v4:Value} {rows:List (Tr×Value×Value×Value)} {kid:Tr×Value×Value×Value} {l:List Int} {A:Option Addr} {ca:Nat} {c c4:World} {q:Prop}
    (h:TM w K S ws vw k vk rows kid c) (hap:Apped (w.heap.size+2) 114 5 vk v4 (k+1) (kcs rows++[.int .i64 kid.1.kind,.int .i64 kid.1.size,kid.2.1,kid.2.2.1,kid.2.2.2]) c c4 q)
    (hlen:rows.length=k) (ok:∀ r,r∈rows++[kid]→TrN r.1∧TrB r.1) (left:SliceR 1 (.slice A l.length ca) l.length (u8s l) v) (le:l.length≤n) (okl:okU l) (sm:∀ m,d≤m→(∀ r,r∈rows++[kid]→rightB m r.1=true)∧((rows++[kid]).map (fun r=>needL m r.1)).sum+7*l.length≤7*n) :
    TK d n v w K S ws vw (k+1) v4 (rows++[kid]) l A ca (c4.setCell ⟨w.heap.size+1,4,none⟩ v4)∧c4.heap[w.heap.size+1]? = some (.cells #[.int .i64 K,.int .i64 S,vw,qI,vk] 114 (0,0)):=by
 have bN:w.heap.size+1<c.heap.size:=(gE h.nod).1
 have hv:∀ j,vk.ownBlock=some j→w.heap.size+2≤j:=fun j hj=>(h.own.lt j hj).1
 have hk:Keep (fun j=>vk.ownBlock=some j) c c4:=(Keep.refl _ c).grown hap.grew (fun j hj=>.inl hj)
 have hr4:=(hk.block w.heap.size (by omega) (fun e=>by have:=hv _ e;omega)).trans h.res
 have hn4:=(hk.block (w.heap.size+1) bN (fun e=>by have:=hv _ e;omega)).trans h.nod
 have hkN:Keep (fun j=>j=w.heap.size+1) c4 (c4.setCell ⟨w.heap.size+1,4,none⟩ v4):=(Keep.refl (fun j=>j=w.heap.size+1) c4).setCell (p:=⟨w.heap.size+1,4,none⟩) (.inl rfl) _
 have hv4:∀ j,v4.ownBlock=some j→vk.ownBlock=some j∨c.heap.size≤j:=fun j hj=>(zu hap j hj).imp id (fun e=>by omega)
 have hv4O:∀ j,v4.ownBlock=some j→w.heap.size+2≤j:=fun j hj=>(hap.own.lt j hj).1
 have h4:c.heap.size≤c4.heap.size:=hk.size
 refine ⟨⟨(hkN.block w.heap.size (by omega) (by omega)).trans hr4,?_,?_,by simp [hlen],?_,?_,ok,left,le,okl,sm⟩,hn4⟩
 ·simp only [World.setCell,Array.getElem?_modify]
  simp [hn4]
 ·exact (((h.keep.mono (T:=fun j=>w.heap.size≤j) (fun _ h=>h.elim)).trans hk (fun j hj=>.inl (by have:=hv _ hj;omega))).trans hkN (fun j hj=>.inl (by omega))).new (fun j hj=>hj)
 ·have:=zF hap.own hkN (fun j hj e=>by have:=hv4O j hj;omega)
  rw [zPC]
  simpa [kcs] using this
 ·have f1:=(h.foot.keep hk (fun j hj e=>hj.2.2 e)).keep hkN (fun j hj e=>by have:=hj.1;omega)
  refine f1.mono (fun j hj=>hj.2.1) (fun j hj=>⟨hj.1,?_,fun e=>?_⟩)
  ·have:=hkN.size
   have:=hj.2.1
   omega
  ·rcases hv4 j e with e2 | e2
   ·exact hj.2.2 e2
   ·have:=hj.2.1;omega
theorem TK.post {D d n:Nat} {v w:World} {K S:Int} {ws:List Int} {A1:Option Addr} {nw c1:Nat} {k:Nat} {A3:Option Addr} {c3:Nat} {rows:List (Tr×Value×Value×Value)} {l:List Int} {A:Option Addr} {ca:Nat} {c c':World}
    (h:TK d n v w K S ws (.slice A1 nw c1) k (.slice A3 k c3) rows l A ca c) (hD:D=d+1) (hob:ownB K S ws.length 0 k=true) (hnd:needN K ws.length 0 k≤7) (hnw:ws.length=nw) (hk:Keep (fun j=>j=w.heap.size) c c') (hw:ws.length≤10000000) (hok:okW ws) (hn:k≤10000000) :
    TreePost D (n+1) n v w (.returned (.tuple #[.agg #[.int .i64 K,.int .i64 S,.slice A1 nw c1,qI,.slice A3 k c3],.slice A l.length ca])) c':=by
 subst hnw
 have bN:w.heap.size+1<c.heap.size:=(gE h.nod).1
 have hs:=hk.size
 refine ⟨.mk K S ws [] (rows.map (·.1)),A1,none,A3,c1,0,c3,l,A,ca,by simp [Tr.kind,Tr.size,Tr.ws,Tr.bs,Tr.kids,h.len],?_,?_,?_,?_,h.left,h.le,h.okl,?_⟩
 ·exact ((h.keep.mono (T:=fun j=>w.heap.size≤j) (fun _ h=>h.elim)).trans hk (fun j hj=>.inl (by omega))).new (fun j hj=>hj)
 ·have f1:=h.foot.keep hk (fun j hj e=>by have:=hj.1;omega)
  have f2:=(Foot.of_own h.own).keep hk (fun j hj e=>by have:=(h.own.lt j hj).1;omega)
  refine ((f1.and f2).imp (fun u hu=>by
   have h5:=hu.2
   have e:((rows.map (·.1)).length)=k:=by simp [h.len]
   show TrR u _ (.slice A1 ws.length c1) (.slice none 0 0) (.slice A3 (rows.map (·.1)).length c3)
   rw [e]
   rw [← h.len] at h5 ⊢
   exact .mk rows hu.1.1 (zZ _ _) h5 hu.1.2)).mono (fun j hj=>hj.2) (fun j hj=>?_)
  rcases hj with hj | hj
  ·have:=hj.1;have:=hj.2.1;omega
  ·have:=h.own.lt j hj;omega
 ·exact .mk hok (fun _ h=>by cases h) (fun t ht=>by
    obtain ⟨r,hr,rfl⟩:=List.mem_map.1 ht
    exact (h.ok r hr).1)
 ·exact .mk hw (by simp) (by rw [List.length_map,h.len];exact hn) (fun t ht=>by
    obtain ⟨r,hr,rfl⟩:=List.mem_map.1 ht
    exact (h.ok r hr).2)
 ·intro m hm
  subst hD
  obtain ⟨m,rfl⟩:∃ j,m=j+1:=⟨m-1,by omega⟩
  obtain ⟨hr,hs⟩:=h.sm m (by omega)
  have hl:=h.len
  have e1:needL (m+1) (.mk K S ws [] (rows.map (·.1)))≤7+(rows.map (fun r=>needL m r.1)).sum:=by
   rw [needL]
   split
   ·omega
   ·have e2:((rows.map (·.1)).map (needL m))=rows.map (fun r=>needL m r.1):=by simp
    simp only [Tr.kids,Tr.kind,Tr.ws,Tr.bs,e2,List.length_map,List.length_nil,hl]
    omega
  refine ⟨?_,by omega⟩
  simp only [rightB,ownT,Tr.kids,Tr.kind,Tr.size,Tr.ws,Tr.bs,List.length_map,List.length_nil,hl,hob,Bool.true_and,List.all_map,List.all_eq_true]
  exact fun r hr2=>hr r hr2
def TreeAt (d : Nat) : Prop := ∀ (l : List Int) (A : Option Addr) (c : Nat) (v w : World), Grow v w → SliceR 1 (.slice A l.length c) l.length (u8s l) v → l.length ≤ 1000000 → okU l →
    Calls Tryz.prog 56 #[.slice A l.length c,.int .i64 d] w (TreePost d l.length l.length v w)
def wdsK (x:Int) (n:Nat):List Int:=(List.range n).map (fun (i:Nat)=>IntKind.u64.wrap (IntKind.u64.wrap (x*2 ^ (8*i))+i))
theorem zR (x:Int) (n:Nat):(wdsK x n).length=n:=by simp [wdsK]
theorem zuE (x:Int) (n:Nat):u64s (wdsK x (n+1))=u64s (wdsK x n)++[.int .u64 (IntKind.u64.wrap (IntKind.u64.wrap (x*2 ^ (8*n))+n))]:=by
 simp [wdsK,u64s,List.range_succ]
theorem zYB (x:Int) (n:Nat):okW (wdsK x n):=by
 intro y hy
 simp only [wdsK,List.mem_map] at hy
 obtain ⟨i,_,rfl⟩:=hy
 exact zpB _
end Go.Proofs.YtfkcpaahdlkcdaaGreat

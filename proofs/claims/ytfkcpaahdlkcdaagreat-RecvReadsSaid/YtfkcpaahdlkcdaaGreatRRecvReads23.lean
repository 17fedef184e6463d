import Derived.Test.YtfkcpaahdlkcdaaGreatRRecvReads22
set_option linter.unusedSimpArgs false
set_option linter.unusedVariables false
set_option maxRecDepth 100000
set_option maxHeartbeats 16000000
namespace Go.Proofs.YtfkcpaahdlkcdaaGreat
open Go.RowKit
theorem zuK (x:Int) (l:List Int) (ad:Addr) (n c:Nat) (deep:Nat) (v w:World) (hv:Grow v w) (h:SliceR 1 (.slice (some ad) n c) n (u8s (x :: l)) v) (hn:n=l.length+1) (hl:l.length≤1000000) (hx:0≤x∧x≤255) (hu:okU l) (hd:deep≠0) (hc1:¬ (c=1)) (d:Nat) (hde:(deep:Int)-1=d) (hdl:deep≤1000) (IH:Hid (TreeAt d)) (q:Nat) (hqq:(q:Int)=x/8%5) (hm:4≤x%8∧x%8≤6) (m:Nat) (hmm:(m:Int)=x/64) :
    Calls Tryz.prog 56 #[(.slice (some ad) n c),.int .i64 deep] w (TreePost deep (l.length+1) l.length v w):=by
 have HV:=LH hv
 have HD0:=LH hd
 have HT:=LH (h.tail2 hn hc1)
 have hcell0:v.cell? ad=some (.int .u8 x):=by
  obtain ⟨A9,c9,e9,_,_,_,hq⟩:=h
  injection e9 with e9 _ _
  obtain ⟨a9,e8,hc⟩:=hq 0 (.int .u8 x) rfl
  rw [← e9] at e8
  injection e8 with e8
  subst e8
  rw [Addr.add_zero'] at hc
  exact hc
 have hcell:=hv.cell hcell0 (fun h=>h)
 clear hcell0 hv
 have hc:n≤c:=by
  obtain ⟨_,_,e,h2,_⟩:=h
  injection e with _ e2 e3
  omega
 have hq:(((n:Nat):Int)==0)=false:=beq_eq_false_iff_ne.2 (by omega)
 have hn1:(1:Int)≤n:=by omega
 have hn0:(0:Int)<n:=by omega
 have HN2:=LH hn
 have HLN:Hid (n-1=l.length):=LH (by omega)
 have hdq:(((deep:Nat):Int)==0)=false:=beq_eq_false_iff_ne.2 (by omega)
 have hmb:(x%8==0)=false:=beq_eq_false_iff_ne.2 (by omega)
 have hm1:(x%8==1)=false:=beq_eq_false_iff_ne.2 (by omega)
 have hm2:(x%8==2)=false:=beq_eq_false_iff_ne.2 (by omega)
 have hm3:(x%8==3)=false:=beq_eq_false_iff_ne.2 (by omega)
 have hm6:¬ (6<x%8):=by omega
 have HMM:=LH hmm
 have HQQ:=LH hqq
 have hm9:m≤20:=by omega
 have hq9:q≤4:=by omega
 have HU:Hid (okU l∧l.length≤1000000):=LH ⟨hu,by omega⟩
 have HDE:=LH (And.intro hde hdl)
 have hga:=(Keep.refl NoB w).alloc (.cells qA 114)
 have hgb:=hga.alloc (.cells qA 114)
 have hcell2:=hga.cell hcell (fun h=>h)
 have HX:Hid (0≤x∧x≤255):=LH hx
 obtain ⟨hx1,hx2⟩:=hx
 have HN9:=LH hn
 clear h hm hmm hqq hd hn hcell hga hgb hu hde hdl
 go_enter Tryz.func56,Tryz.ntmps56
 go_wp2_with fail
 have hy1:0≤x/8%5:=by omega
 have hy2:x/8%5≤4:=by omega
 have hz1:0≤x/64:=by omega
 have hz2:x/64≤3:=by omega
 go_loopw [11] (fun v wr=>∃ k:Nat,k≤m∧v=.int .i64 k∧∃ A4 c4,wr.heap[w.heap.size]? = some (.cells qA 114 (0,0))∧wr.heap[w.heap.size+1]? = some (.cells #[.int .i64 1,qJ,.slice A4 k c4,qI,qI] 114 (0,0))∧Hid (Grow w wr∧w.heap.size+2≤wr.heap.size∧wr.ownsRow (w.heap.size+2) 22 1 (.slice A4 k c4) k (u64s (wdsK x k)))) (fun v _=>m-(intOf v).toNat)
 case atStart=>exact ⟨0,by omega,rfl,none,0,(zQ w _ _).1,(zQ w _ _).2.1,((Keep.refl NoB w).alloc _).alloc _,Nat.le_of_eq (zQ w _ _).2.2.symm,World.ownsRow_nil _ (w.heap.size+2) 22 1⟩
 case round =>
  obtain ⟨k,hk,rfl,A4,c4,hb4,hb7,HS⟩:=hrel
  have hwb:IntKind.i64.wrap (x/8%5)=x/8%5:=IntWalk.i64_in _ (by omega)
  have hwc:IntKind.i64.wrap (x/64)=x/64:=IntWalk.i64_in _ (by omega)
  have hd0:wr.cell? ⟨w.heap.size+1,0,none⟩=_:=World.news_of_block hb7 0 _ rfl
  have hd1:wr.cell? ⟨w.heap.size+1,1,none⟩=_:=World.news_of_block hb7 1 _ rfl
  have hd2:wr.cell? ⟨w.heap.size+1,2,none⟩=_:=World.news_of_block hb7 2 _ rfl
  have hd3:wr.cell? ⟨w.heap.size+1,3,none⟩=_:=World.news_of_block hb7 3 _ rfl
  have hd4:wr.cell? ⟨w.heap.size+1,4,none⟩=_:=World.news_of_block hb7 4 _ rfl
  by_cases hlt:k<m
  ·have hw:IntKind.i64.wrap ((k:Int)+1)=(k:Int)+1:=IntWalk.i64_in _ (by omega)
   have hw8:IntKind.i64.wrap (8*(k:Int))=8*(k:Int):=IntWalk.i64_in _ (by omega)
   have hw9:IntKind.u64.wrap (8*(k:Int))=8*(k:Int):=IntWalk.u64_in _ (by omega)
   have hlt':(k:Int)<x/64:=by have:=HMM.out;omega
   have hk9:(k:Int)≤255:=by omega
   have E1:=LH (zuE x k)
   go_wp2_with (at_builtin;refine zL _ rfl _ _ 111 111 rfl (w.heap.size+2) 22 (.int .u64 0) 1 8 zCA zj rfl (.slice A4 k c4) k (u64s (wdsK x k)) rfl (.slice (some ⟨wr.heap.size,0,none⟩) 1 1) 1 [.int .u64 (IntKind.u64.wrap (IntKind.u64.wrap (x*2 ^ (8*k))+k))] rfl ?_ (by exact zF HS.out.2.2 ((Keep.refl NoB wr).alloc _) (fun _ _ h=>h)) (by exact Src.ofSlice _ zCA ⟨wr.heap.size,0,none⟩ 1 1 _ rfl (World.news_of_block (cs:=#[.int .u64 (IntKind.u64.wrap (IntKind.u64.wrap (x*2 ^ (8*k))+k))]) (t:=22) (fr:=(0,0)) (heap_alloc_new wr _)) (by simp [Value.oneCell'])) (by simp only [maxLen];omega) (by omega) (by have:=HS.out.2.1;simp;omega);intro v3 w3 hap;refine Hid.out ?_)
   refine LH ?_
   have Hg3:Hid (Grow w w3∧w.heap.size+2≤w3.heap.size):=⟨((((HS.out.1.mono (T:=fun k=>w.heap.size+2≤k) (fun _ h=>h.elim)).alloc _).grown hap.grew (fun k hk=>.inl (HS.out.2.2.lt k hk).1))).new (fun _ h=>by omega),by have h1:=HS.out.2.1;have h2:=hap.grew.size;simp at h2;omega⟩
   have HK:=((Keep.refl (fun k=>w.heap.size+2≤k) wr).alloc (.cells #[.int .u64 (IntKind.u64.wrap (IntKind.u64.wrap (x*2 ^ (8*k))+k))] 22)).grown hap.grew (fun k hk=>.inl (HS.out.2.2.lt k hk).1)
   have hs2:=HS.out.2.1
   have hc4:=(HK.block w.heap.size (by omega) (by omega)).trans hb4
   have hc7:=(HK.block (w.heap.size+1) (by omega) (by omega)).trans hb7
   have Ho3:=LH hap.own
   obtain ⟨A6,c6,rfl,_⟩:=zK hap.own
   have hlb:∀ q,(Value.slice A6 (k+1) c6).ownBlock=some q→w.heap.size+2≤q:=fun q hq=>(hap.own.lt q hq).1
   clear hap HK
   rw [← E1.out] at Ho3
   have hd3':w3.cell? ⟨w.heap.size+1,2,none⟩=_:=World.news_of_block hc7 2 _ rfl
   have hfr:∀ o,w3.frozen? ⟨w.heap.size+1,o,none⟩=false:=fun o=>zN o hc7
   have Hc:=LH hc4
   have Hc':=LH hc7
   have Hlb:=LH hlb
   clear hd0 hd1 hd2 hd3 hd4 hb4 hb7 hc4 hc7 hlb
   go_wp2
   go_roundw
   case rel =>
    have hkk:Keep (fun q=>q=w.heap.size+1) w3 (w3.setCell ⟨w.heap.size+1,2,none⟩ (.slice A6 (k+1) c6)):=(Keep.refl (fun q=>q=w.heap.size+1) w3).setCell (p:=⟨w.heap.size+1,2,none⟩) (.inl rfl) _
    refine ⟨k+1,by omega,by go_num,A6,c6,(hkk.block w.heap.size (by have:=Hg3.out.2;omega) (by simp)).trans Hc.out,?_,Hg3.out.1.setCell (.inr (by simp)) _,Nat.le_trans Hg3.out.2 hkk.size,zF Ho3.out hkk (fun q hq=>by have:=Hlb.out q hq;omega)⟩
    have hq:=Hc'.out
    simp only [World.setCell,Array.getElem?_modify]
    simp [hq]
   case measure=>simp [intOf];omega
  obtain rfl:k=m:=by omega
  have hlt':¬ ((k:Int)<x/64):=by have:=HMM.out;omega
  have HK0:Hid (TK d l.length v w 1 0 (wdsK x k) (.slice A4 k c4) 0 (.slice none 0 0) [] l (some ⟨ad.block,ad.off+1,none⟩) (c-1) wr):=LH (TK.begin hb4 hb7 HS.out.1 (by rw [zR];exact HS.out.2.2) (by have:=HT.out;rw [HLN.out] at this;exact this) (Nat.le_refl _) HU.out.1)
  clear hb4 HS
  go_wp2_with fail
  clear hd0 hd1 hd2 hd3 hd4 hb7
  go_loopw [0,12,13,14] (fun v0 v12 v13 v14 wr=>∃ (j:Nat) (lj:List Int) (A0:Option Addr) (c0:Nat) (A5:Option Addr) (c5:Nat) (rows:List (Tr×Value×Value×Value)),j≤q∧v12=.int .i64 j∧v0=.slice A0 lj.length c0∧Hid (TK d l.length v w 1 0 (wdsK x k) (.slice A4 k c4) j (.slice A5 j c5) rows lj A0 c0 wr)) (fun _ v12 _ _ _=>q-(intOf v12).toNat)
  case atStart=>exact ⟨0,l,(some ⟨ad.block,ad.off+1,none⟩),(c-1),none,0,[],by omega,rfl,(by rw [HLN.out]),HK0⟩
  case round =>
   clear HK0
   obtain ⟨j,lj,A0,c0,A5,c5,rows,hj,rfl,rfl,HK⟩:=hrel
   obtain ⟨n0,n1,n2,n3,n4,nf⟩:=zA HK.out.nod
   by_cases hjt:j<q
   ·have hjt':(j:Int)<x/8%5:=by have:=HQQ.out;omega
    have hwj:IntKind.i64.wrap ((j:Int)+1)=(j:Int)+1:=IntWalk.i64_in _ (by omega)
    have hwd:IntKind.i64.wrap ((deep:Int)-1)=d:=by rw [HDE.out.1];exact IntWalk.i64_in _ (by have:=HDE.out.1;have:=HDE.out.2;omega)
    go_wp2_with fail
    refine (IH.out lj A0 c0 v wr (HV.out.grow HK.out.keep) HK.out.left (Nat.le_trans HK.out.le HU.out.2) HK.out.okl).mono ?_
    rintro e w4 ⟨t,B1,B2,B3,d1,d2,d3,l2,A2,c2,rfl,hg4,hf4,htn,htb,hl4,hle4,hok4,hsm4⟩
    have HM:=LH (HK.out.called hg4 hf4)
    have HL:=LH (And.intro hl4 (And.intro (Nat.le_trans hle4 HK.out.le) hok4))
    have HT2:=LH (And.intro htn htb)
    have HSM4:=LH hsm4
    clear hg4 hf4 htn htb hl4 hle4 hok4 hsm4 n0 n1 n2 n3 n4 nf
    have hga:=(Keep.refl NoB w4).alloc (.cells #[t.kind,t.size,.slice B1 t.ws.length d1,.slice B2 t.bs.length d2,.slice B3 t.kids.length d3] 114)
    have hna:=heap_alloc_new w4 (.cells #[t.kind,t.size,.slice B1 t.ws.length d1,.slice B2 t.bs.length d2,.slice B3 t.kids.length d3] 114)
    replace HM:=LH (HM.out.grow hga)
    have HNA:=LH hna
    clear hga hna
    obtain ⟨t0,t1,t2,t3,t4,tf⟩:=zA HNA.out
    obtain ⟨n0,n1,n2,n3,n4,nf⟩:=zA HM.out.nod
    have HSRC:Hid (((w4.alloc (.cells #[t.kind,t.size,.slice B1 t.ws.length d1,.slice B2 t.bs.length d2,.slice B3 t.kids.length d3] 114)).alloc (.cells #[t.kind,t.size,.slice B1 t.ws.length d1,.slice B2 t.bs.length d2,.slice B3 t.kids.length d3] 114)).heap[w4.heap.size+1]? = some (.cells #[t.kind,t.size,.slice B1 t.ws.length d1,.slice B2 t.bs.length d2,.slice B3 t.kids.length d3] 114 (0,0))):=LH (zQ w4 _ _).2.1
    have HSZ:Hid (w.heap.size+2≤((w4.alloc (.cells #[t.kind,t.size,.slice B1 t.ws.length d1,.slice B2 t.bs.length d2,.slice B3 t.kids.length d3] 114)).alloc (.cells #[t.kind,t.size,.slice B1 t.ws.length d1,.slice B2 t.bs.length d2,.slice B3 t.kids.length d3] 114)).heap.size):=LH (by have:=(gE HM.out.nod).1;simp at this ⊢;omega)
    go_wp2_with (at_builtin;refine zL _ rfl _ _ 112 112 rfl (w.heap.size+2) 114 (.agg qA) 5 88 zv zZA rfl (.slice A5 j c5) j (kcs rows) rfl (.slice (some ⟨w4.heap.size+1,0,none⟩) 1 1) 1 [.int .i64 t.kind,.int .i64 t.size,.slice B1 t.ws.length d1,.slice B2 t.bs.length d2,.slice B3 t.kids.length d3] rfl ?_ (by exact zF HM.out.own ((Keep.refl NoB _).alloc _) (fun _ _ h=>h)) (by exact Src.ofSlice _ zv ⟨w4.heap.size+1,0,none⟩ 1 1 _ rfl (World.news_of_block (cs:=#[t.kind,t.size,.slice B1 t.ws.length d1,.slice B2 t.bs.length d2,.slice B3 t.kids.length d3]) (t:=114) (fr:=(0,0)) HSRC.out) (by simp [Value.oneCell'])) (by simp only [maxLen];omega) (by omega) (by exact HSZ.out);intro v5 w5 hap;refine Hid.out ?_)
    refine LH ?_
    replace HM:=LH (HM.out.grow ((Keep.refl NoB _).alloc (.cells #[t.kind,t.size,.slice B1 t.ws.length d1,.slice B2 t.bs.length d2,.slice B3 t.kids.length d3] 114)))
    have hfin:=HM.out.appended (kid:=(t,.slice B1 t.ws.length d1,.slice B2 t.bs.length d2,.slice B3 t.kids.length d3)) hap HK.out.len (fun x hx=>by
     rcases List.mem_append.1 hx with e | e
     ·exact HK.out.ok x e
     ·rw [List.mem_singleton.1 e];exact HT2.out) HL.out.1 HL.out.2.1 HL.out.2.2 (fun m9 h9=>⟨fun x hx=>by
     rcases List.mem_append.1 hx with e | e
     ·exact (HK.out.sm m9 h9).1 x e
     ·rw [List.mem_singleton.1 e];exact (HSM4.out m9 h9).1,by
     have e1:=(HK.out.sm m9 h9).2
     have e2:=(HSM4.out m9 h9).2
     rw [List.map_append,List.sum_append]
     simp only [List.map_cons,List.map_nil,List.sum_cons,List.sum_nil]
     omega⟩)
    obtain ⟨A6,c6,rfl,_⟩:=zK hap.own
    have HF:=LH hfin.1
    clear n0 n1 n2 n3 n4 nf t0 t1 t2 t3 t4 tf hap
    obtain ⟨n0,n1,n2,n3,n4,nf⟩:=zA hfin.2
    clear hfin
    go_wp2
    go_roundw
    case rel=>exact ⟨j+1,l2,A2,c2,A6,c6,_,by omega,by go_num,rfl,HF⟩
    case measure=>simp [intOf];omega
   ·obtain rfl:j=q:=by omega
    have hjt':¬ ((j:Int)<x/8%5):=by have:=HQQ.out;omega
    obtain ⟨hf0,hf1,hf2,hf3,hf4,hfr⟩:=zA HK.out.res
    obtain ⟨hw5,-⟩:=zY (.int .i64 1) (.int .i64 0) (.slice A4 k c4) (.slice none 0 0) (.slice A5 j c5) HK.out.keep (Nat.le_refl _) HK.out.res
    have HW5:=LH hw5
    have HP:Hid (TreePost deep (l.length+1) l.length v w (.returned (.tuple #[.agg #[.int .i64 1,qJ,.slice A4 k c4,qI,.slice A5 j c5],.slice A0 lj.length c0])) (((((wr.setCell ⟨w.heap.size,0,none⟩ (.int .i64 1)).setCell ⟨w.heap.size,1,none⟩ (.int .i64 0)).setCell ⟨w.heap.size,2,none⟩ (.slice A4 k c4)).setCell ⟨w.heap.size,3,none⟩ (.slice none 0 0)).setCell ⟨w.heap.size,4,none⟩ (.slice A5 j c5))) :=
     LH (HK.out.post (by have:=HDE.out.1;omega) (by rw [zR];simp [ownB];have:=HMM.out;omega) (by rw [zR];simp [needN];have:=HMM.out;omega) (zR x k) (zb _ _ _ _ _) (by rw [zR];omega) (zYB x k) (by omega))
    clear hw5
    go_wp2
    revert HW5 HP
    generalize (((((wr.setCell ⟨w.heap.size,0,none⟩ (.int .i64 1)).setCell ⟨w.heap.size,1,none⟩ (.int .i64 0)).setCell ⟨w.heap.size,2,none⟩ (.slice A4 k c4)).setCell ⟨w.heap.size,3,none⟩ (.slice none 0 0)).setCell ⟨w.heap.size,4,none⟩ (.slice A5 j c5))=w5
    intro HW5 HP
    obtain ⟨hf0,hf1,hf2,hf3,hf4,hfr⟩:=zA HW5.out
    refine bodyPost_ret (v:=.tuple #[.agg #[.int .i64 1,qJ,.slice A4 k c4,qI,.slice A5 j c5],.slice A0 lj.length c0]) ?_ rfl HP.out
    rw [results_cell_tmp rfl];go_simp
theorem zvK (x:Int) (ad:Addr) (deep:Nat) (v w:World) (hv:Grow v w) (h:SliceR 1 (.slice (some ad) 1 1) 1 (u8s [x]) v) (hx:0≤x∧x≤255) (hd:deep≠0) (d:Nat) (hde:(deep:Int)-1=d) (hdl:deep≤1000) (IH:Hid (TreeAt d)) (q:Nat) (hqq:(q:Int)=x/8%5) (hm:4≤x%8∧x%8≤6) (m:Nat) (hmm:(m:Int)=x/64) :
    Calls Tryz.prog 56 #[(.slice (some ad) 1 1),.int .i64 deep] w (TreePost deep (([]:List Int).length+1) ([]:List Int).length v w):=by
 have HV:=LH hv
 have HD0:=LH hd
 have HT:Hid (SliceR 1 (.slice (some ad) 0 0) 0 (u8s []) v):=LH ⟨some ad,0,rfl,Nat.le_refl _,by simp [u8s],fun _=>rfl,fun j u hu=>by simp [u8s] at hu⟩
 have hcell0:v.cell? ad=some (.int .u8 x):=by
  obtain ⟨A9,c9,e9,_,_,_,hq⟩:=h
  injection e9 with e9 _ _
  obtain ⟨a9,e8,hc⟩:=hq 0 (.int .u8 x) rfl
  rw [← e9] at e8
  injection e8 with e8
  subst e8
  rw [Addr.add_zero'] at hc
  exact hc
 have hcell:=hv.cell hcell0 (fun h=>h)
 clear hcell0 hv
 have hu:okU []:=fun y hy=>by cases hy
 have hn:0=([]:List Int).length:=rfl
 have hdq:(((deep:Nat):Int)==0)=false:=beq_eq_false_iff_ne.2 (by omega)
 have hmb:(x%8==0)=false:=beq_eq_false_iff_ne.2 (by omega)
 have hm1:(x%8==1)=false:=beq_eq_false_iff_ne.2 (by omega)
 have hm2:(x%8==2)=false:=beq_eq_false_iff_ne.2 (by omega)
 have hm3:(x%8==3)=false:=beq_eq_false_iff_ne.2 (by omega)
 have hm6:¬ (6<x%8):=by omega
 have HMM:=LH hmm
 have HQQ:=LH hqq
 have hm9:m≤20:=by omega
 have hq9:q≤4:=by omega
 have HU:Hid (okU ([]:List Int)∧([]:List Int).length≤1000000):=LH ⟨hu,by simp⟩
 have HDE:=LH (And.intro hde hdl)
 have hga:=(Keep.refl NoB w).alloc (.cells qA 114)
 have hgb:=hga.alloc (.cells qA 114)
 have hcell2:=hga.cell hcell (fun h=>h)
 have HX:Hid (0≤x∧x≤255):=LH hx
 obtain ⟨hx1,hx2⟩:=hx
 have HN9:=LH hn
 clear h hm hmm hqq hd hn hcell hga hgb hu hde hdl
 go_enter Tryz.func56,Tryz.ntmps56
 go_wp2_with fail
 have hy1:0≤x/8%5:=by omega
 have hy2:x/8%5≤4:=by omega
 have hz1:0≤x/64:=by omega
 have hz2:x/64≤3:=by omega
 go_loopw [11] (fun v wr=>∃ k:Nat,k≤m∧v=.int .i64 k∧∃ A4 c4,wr.heap[w.heap.size]? = some (.cells qA 114 (0,0))∧wr.heap[w.heap.size+1]? = some (.cells #[.int .i64 1,qJ,.slice A4 k c4,qI,qI] 114 (0,0))∧Hid (Grow w wr∧w.heap.size+2≤wr.heap.size∧wr.ownsRow (w.heap.size+2) 22 1 (.slice A4 k c4) k (u64s (wdsK x k)))) (fun v _=>m-(intOf v).toNat)
 case atStart=>exact ⟨0,by omega,rfl,none,0,(zQ w _ _).1,(zQ w _ _).2.1,((Keep.refl NoB w).alloc _).alloc _,Nat.le_of_eq (zQ w _ _).2.2.symm,World.ownsRow_nil _ (w.heap.size+2) 22 1⟩
 case round =>
  obtain ⟨k,hk,rfl,A4,c4,hb4,hb7,HS⟩:=hrel
  have hwb:IntKind.i64.wrap (x/8%5)=x/8%5:=IntWalk.i64_in _ (by omega)
  have hwc:IntKind.i64.wrap (x/64)=x/64:=IntWalk.i64_in _ (by omega)
  have hd0:wr.cell? ⟨w.heap.size+1,0,none⟩=_:=World.news_of_block hb7 0 _ rfl
  have hd1:wr.cell? ⟨w.heap.size+1,1,none⟩=_:=World.news_of_block hb7 1 _ rfl
  have hd2:wr.cell? ⟨w.heap.size+1,2,none⟩=_:=World.news_of_block hb7 2 _ rfl
  have hd3:wr.cell? ⟨w.heap.size+1,3,none⟩=_:=World.news_of_block hb7 3 _ rfl
  have hd4:wr.cell? ⟨w.heap.size+1,4,none⟩=_:=World.news_of_block hb7 4 _ rfl
  by_cases hlt:k<m
  ·have hw:IntKind.i64.wrap ((k:Int)+1)=(k:Int)+1:=IntWalk.i64_in _ (by omega)
   have hw8:IntKind.i64.wrap (8*(k:Int))=8*(k:Int):=IntWalk.i64_in _ (by omega)
   have hw9:IntKind.u64.wrap (8*(k:Int))=8*(k:Int):=IntWalk.u64_in _ (by omega)
   have hlt':(k:Int)<x/64:=by have:=HMM.out;omega
   have hk9:(k:Int)≤255:=by omega
   have E1:=LH (zuE x k)
   go_wp2_with (at_builtin;refine zL _ rfl _ _ 111 111 rfl (w.heap.size+2) 22 (.int .u64 0) 1 8 zCA zj rfl (.slice A4 k c4) k (u64s (wdsK x k)) rfl (.slice (some ⟨wr.heap.size,0,none⟩) 1 1) 1 [.int .u64 (IntKind.u64.wrap (IntKind.u64.wrap (x*2 ^ (8*k))+k))] rfl ?_ (by exact zF HS.out.2.2 ((Keep.refl NoB wr).alloc _) (fun _ _ h=>h)) (by exact Src.ofSlice _ zCA ⟨wr.heap.size,0,none⟩ 1 1 _ rfl (World.news_of_block (cs:=#[.int .u64 (IntKind.u64.wrap (IntKind.u64.wrap (x*2 ^ (8*k))+k))]) (t:=22) (fr:=(0,0)) (heap_alloc_new wr _)) (by simp [Value.oneCell'])) (by simp only [maxLen];omega) (by omega) (by have:=HS.out.2.1;simp;omega);intro v3 w3 hap;refine Hid.out ?_)
   refine LH ?_
   have Hg3:Hid (Grow w w3∧w.heap.size+2≤w3.heap.size):=⟨((((HS.out.1.mono (T:=fun k=>w.heap.size+2≤k) (fun _ h=>h.elim)).alloc _).grown hap.grew (fun k hk=>.inl (HS.out.2.2.lt k hk).1))).new (fun _ h=>by omega),by have h1:=HS.out.2.1;have h2:=hap.grew.size;simp at h2;omega⟩
   have HK:=((Keep.refl (fun k=>w.heap.size+2≤k) wr).alloc (.cells #[.int .u64 (IntKind.u64.wrap (IntKind.u64.wrap (x*2 ^ (8*k))+k))] 22)).grown hap.grew (fun k hk=>.inl (HS.out.2.2.lt k hk).1)
   have hs2:=HS.out.2.1
   have hc4:=(HK.block w.heap.size (by omega) (by omega)).trans hb4
   have hc7:=(HK.block (w.heap.size+1) (by omega) (by omega)).trans hb7
   have Ho3:=LH hap.own
   obtain ⟨A6,c6,rfl,_⟩:=zK hap.own
   have hlb:∀ q,(Value.slice A6 (k+1) c6).ownBlock=some q→w.heap.size+2≤q:=fun q hq=>(hap.own.lt q hq).1
   clear hap HK
   rw [← E1.out] at Ho3
   have hd3':w3.cell? ⟨w.heap.size+1,2,none⟩=_:=World.news_of_block hc7 2 _ rfl
   have hfr:∀ o,w3.frozen? ⟨w.heap.size+1,o,none⟩=false:=fun o=>zN o hc7
   have Hc:=LH hc4
   have Hc':=LH hc7
   have Hlb:=LH hlb
   clear hd0 hd1 hd2 hd3 hd4 hb4 hb7 hc4 hc7 hlb
   go_wp2
   go_roundw
   case rel =>
    have hkk:Keep (fun q=>q=w.heap.size+1) w3 (w3.setCell ⟨w.heap.size+1,2,none⟩ (.slice A6 (k+1) c6)):=(Keep.refl (fun q=>q=w.heap.size+1) w3).setCell (p:=⟨w.heap.size+1,2,none⟩) (.inl rfl) _
    refine ⟨k+1,by omega,by go_num,A6,c6,(hkk.block w.heap.size (by have:=Hg3.out.2;omega) (by simp)).trans Hc.out,?_,Hg3.out.1.setCell (.inr (by simp)) _,Nat.le_trans Hg3.out.2 hkk.size,zF Ho3.out hkk (fun q hq=>by have:=Hlb.out q hq;omega)⟩
    have hq:=Hc'.out
    simp only [World.setCell,Array.getElem?_modify]
    simp [hq]
   case measure=>simp [intOf];omega
  obtain rfl:k=m:=by omega
  have hlt':¬ ((k:Int)<x/64):=by have:=HMM.out;omega
  have HK0:Hid (TK d ([]:List Int).length v w 1 0 (wdsK x k) (.slice A4 k c4) 0 (.slice none 0 0) [] ([]:List Int) (some ad) 0 wr):=LH (TK.begin hb4 hb7 HS.out.1 (by rw [zR];exact HS.out.2.2) HT.out (Nat.le_refl _) HU.out.1)
  clear hb4 HS
  go_wp2_with fail
  clear hd0 hd1 hd2 hd3 hd4 hb7
  go_loopw [0,12,13,14] (fun v0 v12 v13 v14 wr=>∃ (j:Nat) (lj:List Int) (A0:Option Addr) (c0:Nat) (A5:Option Addr) (c5:Nat) (rows:List (Tr×Value×Value×Value)),j≤q∧v12=.int .i64 j∧v0=.slice A0 lj.length c0∧Hid (TK d ([]:List Int).length v w 1 0 (wdsK x k) (.slice A4 k c4) j (.slice A5 j c5) rows lj A0 c0 wr)) (fun _ v12 _ _ _=>q-(intOf v12).toNat)
  case atStart=>exact ⟨0,([]:List Int),(some ad),0,none,0,[],by omega,rfl,rfl,HK0⟩
  case round =>
   clear HK0
   obtain ⟨j,lj,A0,c0,A5,c5,rows,hj,rfl,rfl,HK⟩:=hrel
   obtain ⟨n0,n1,n2,n3,n4,nf⟩:=zA HK.out.nod
   by_cases hjt:j<q
   ·have hjt':(j:Int)<x/8%5:=by have:=HQQ.out;omega
    have hwj:IntKind.i64.wrap ((j:Int)+1)=(j:Int)+1:=IntWalk.i64_in _ (by omega)
    have hwd:IntKind.i64.wrap ((deep:Int)-1)=d:=by rw [HDE.out.1];exact IntWalk.i64_in _ (by have:=HDE.out.1;have:=HDE.out.2;omega)
    go_wp2_with fail
    refine (IH.out lj A0 c0 v wr (HV.out.grow HK.out.keep) HK.out.left (Nat.le_trans HK.out.le HU.out.2) HK.out.okl).mono ?_
    rintro e w4 ⟨t,B1,B2,B3,d1,d2,d3,l2,A2,c2,rfl,hg4,hf4,htn,htb,hl4,hle4,hok4,hsm4⟩
    have HM:=LH (HK.out.called hg4 hf4)
    have HL:=LH (And.intro hl4 (And.intro (Nat.le_trans hle4 HK.out.le) hok4))
    have HT2:=LH (And.intro htn htb)
    have HSM4:=LH hsm4
    clear hg4 hf4 htn htb hl4 hle4 hok4 hsm4 n0 n1 n2 n3 n4 nf
    have hga:=(Keep.refl NoB w4).alloc (.cells #[t.kind,t.size,.slice B1 t.ws.length d1,.slice B2 t.bs.length d2,.slice B3 t.kids.length d3] 114)
    have hna:=heap_alloc_new w4 (.cells #[t.kind,t.size,.slice B1 t.ws.length d1,.slice B2 t.bs.length d2,.slice B3 t.kids.length d3] 114)
    replace HM:=LH (HM.out.grow hga)
    have HNA:=LH hna
    clear hga hna
    obtain ⟨t0,t1,t2,t3,t4,tf⟩:=zA HNA.out
    obtain ⟨n0,n1,n2,n3,n4,nf⟩:=zA HM.out.nod
    have HSRC:Hid (((w4.alloc (.cells #[t.kind,t.size,.slice B1 t.ws.length d1,.slice B2 t.bs.length d2,.slice B3 t.kids.length d3] 114)).alloc (.cells #[t.kind,t.size,.slice B1 t.ws.length d1,.slice B2 t.bs.length d2,.slice B3 t.kids.length d3] 114)).heap[w4.heap.size+1]? = some (.cells #[t.kind,t.size,.slice B1 t.ws.length d1,.slice B2 t.bs.length d2,.slice B3 t.kids.length d3] 114 (0,0))):=LH (zQ w4 _ _).2.1
    have HSZ:Hid (w.heap.size+2≤((w4.alloc (.cells #[t.kind,t.size,.slice B1 t.ws.length d1,.slice B2 t.bs.length d2,.slice B3 t.kids.length d3] 114)).alloc (.cells #[t.kind,t.size,.slice B1 t.ws.length d1,.slice B2 t.bs.length d2,.slice B3 t.kids.length d3] 114)).heap.size):=LH (by have:=(gE HM.out.nod).1;simp at this ⊢;omega)
    go_wp2_with (at_builtin;refine zL _ rfl _ _ 112 112 rfl (w.heap.size+2) 114 (.agg qA) 5 88 zv zZA rfl (.slice A5 j c5) j (kcs rows) rfl (.slice (some ⟨w4.heap.size+1,0,none⟩) 1 1) 1 [.int .i64 t.kind,.int .i64 t.size,.slice B1 t.ws.length d1,.slice B2 t.bs.length d2,.slice B3 t.kids.length d3] rfl ?_ (by exact zF HM.out.own ((Keep.refl NoB _).alloc _) (fun _ _ h=>h)) (by exact Src.ofSlice _ zv ⟨w4.heap.size+1,0,none⟩ 1 1 _ rfl (World.news_of_block (cs:=#[t.kind,t.size,.slice B1 t.ws.length d1,.slice B2 t.bs.length d2,.slice B3 t.kids.length d3]) (t:=114) (fr:=(0,0)) HSRC.out) (by simp [Value.oneCell'])) (by simp only [maxLen];omega) (by omega) (by exact HSZ.out);intro v5 w5 hap;refine Hid.out ?_)
    refine LH ?_
    replace HM:=LH (HM.out.grow ((Keep.refl NoB _).alloc (.cells #[t.kind,t.size,.slice B1 t.ws.length d1,.slice B2 t.bs.length d2,.slice B3 t.kids.length d3] 114)))
    have hfin:=HM.out.appended (kid:=(t,.slice B1 t.ws.length d1,.slice B2 t.bs.length d2,.slice B3 t.kids.length d3)) hap HK.out.len (fun x hx=>by
     rcases List.mem_append.1 hx with e | e
     ·exact HK.out.ok x e
     ·rw [List.mem_singleton.1 e];exact HT2.out) HL.out.1 HL.out.2.1 HL.out.2.2 (fun m9 h9=>⟨fun x hx=>by
     rcases List.mem_append.1 hx with e | e
     ·exact (HK.out.sm m9 h9).1 x e
     ·rw [List.mem_singleton.1 e];exact (HSM4.out m9 h9).1,by
     have e1:=(HK.out.sm m9 h9).2
     have e2:=(HSM4.out m9 h9).2
     rw [List.map_append,List.sum_append]
     simp only [List.map_cons,List.map_nil,List.sum_cons,List.sum_nil]
     omega⟩)
    obtain ⟨A6,c6,rfl,_⟩:=zK hap.own
    have HF:=LH hfin.1
    clear n0 n1 n2 n3 n4 nf t0 t1 t2 t3 t4 tf hap
    obtain ⟨n0,n1,n2,n3,n4,nf⟩:=zA hfin.2
    clear hfin
    go_wp2
    go_roundw
    case rel=>exact ⟨j+1,l2,A2,c2,A6,c6,_,by omega,by go_num,rfl,HF⟩
    case measure=>simp [intOf];omega
   ·obtain rfl:j=q:=by omega
    have hjt':¬ ((j:Int)<x/8%5):=by have:=HQQ.out;omega
    obtain ⟨hf0,hf1,hf2,hf3,hf4,hfr⟩:=zA HK.out.res
    obtain ⟨hw5,-⟩:=zY (.int .i64 1) (.int .i64 0) (.slice A4 k c4) (.slice none 0 0) (.slice A5 j c5) HK.out.keep (Nat.le_refl _) HK.out.res
    have HW5:=LH hw5
    have HP:Hid (TreePost deep (([]:List Int).length+1) ([]:List Int).length v w (.returned (.tuple #[.agg #[.int .i64 1,qJ,.slice A4 k c4,qI,.slice A5 j c5],.slice A0 lj.length c0])) (((((wr.setCell ⟨w.heap.size,0,none⟩ (.int .i64 1)).setCell ⟨w.heap.size,1,none⟩ (.int .i64 0)).setCell ⟨w.heap.size,2,none⟩ (.slice A4 k c4)).setCell ⟨w.heap.size,3,none⟩ (.slice none 0 0)).setCell ⟨w.heap.size,4,none⟩ (.slice A5 j c5))) :=
     LH (HK.out.post (by have:=HDE.out.1;omega) (by rw [zR];simp [ownB];have:=HMM.out;omega) (by rw [zR];simp [needN];have:=HMM.out;omega) (zR x k) (zb _ _ _ _ _) (by rw [zR];omega) (zYB x k) (by omega))
    clear hw5
    go_wp2
    revert HW5 HP
    generalize (((((wr.setCell ⟨w.heap.size,0,none⟩ (.int .i64 1)).setCell ⟨w.heap.size,1,none⟩ (.int .i64 0)).setCell ⟨w.heap.size,2,none⟩ (.slice A4 k c4)).setCell ⟨w.heap.size,3,none⟩ (.slice none 0 0)).setCell ⟨w.heap.size,4,none⟩ (.slice A5 j c5))=w5
    intro HW5 HP
    obtain ⟨hf0,hf1,hf2,hf3,hf4,hfr⟩:=zA HW5.out
    refine bodyPost_ret (v:=.tuple #[.agg #[.int .i64 1,qJ,.slice A4 k c4,qI,.slice A5 j c5],.slice A0 lj.length c0]) ?_ rfl HP.out
    rw [results_cell_tmp rfl];go_simp
theorem okU_wf {l:List Int} (h:∀ x∈l,(Lit.int .u8 x).wf=true):okU l:=fun x hx=>by
 simpa [Lit.wf,show IntKind.u8.min=0 from rfl,show IntKind.u8.max=255 from rfl] using h x hx
theorem zyK (a b:Nat):2197175160*((a ^^^ b)%2)=(2197175160*(a%2)) ^^^ (2197175160*(b%2)):=by
 have h:(a ^^^ b)%2=(a%2) ^^^ (b%2):=Nat.xor_mod_two_pow (n:=1)
 rcases Nat.mod_two_eq_zero_or_one a with ha | ha <;> rcases Nat.mod_two_eq_zero_or_one b with hb | hb
 ·rw [h,ha,hb];rfl
 ·rw [h,ha,hb];rfl
 ·rw [h,ha,hb];rfl
 ·rw [h,ha,hb,Nat.xor_self];decide
theorem zhJ (a b:Nat):stepN (a ^^^ b)=stepN a ^^^ stepN b:=by
 unfold stepN
 rw [zyK,Nat.xor_div_two]
 ac_rfl
theorem zGE (a b:Nat):∀ k,stepsN k (a ^^^ b)=stepsN k a ^^^ stepsN k b
 | 0=>rfl
 | k+1=>by
  unfold stepsN
  rw [zGE a b k,zhJ]
theorem ziJ (m:Nat):stepN (2*m)=m:=by
 unfold stepN
 rw [show 2*m/2=m from by omega,show 2*m%2=0 from by omega]
 simp
theorem zJG (m:Nat):stepsN 8 (256*m)=m:=by
 rw [show 256*m=2*(2*(2*(2*(2*(2*(2*(2*m))))))) from by omega]
 simp only [stepsN,ziJ]
theorem zGM (n:Nat):(256*(n/256)) ^^^ (n%256)=n:=by
 apply Nat.eq_of_testBit_eq
 intro i
 rw [Nat.testBit_xor,show (256:Nat)=2 ^ 8 from rfl,Nat.testBit_two_pow_mul,Nat.testBit_mod_two_pow,Nat.testBit_div_two_pow]
 by_cases h:i<8
 ·have h2:¬ (8≤i):=by omega
  simp [h,h2]
 ·have h2:8≤i:=by omega
  simp [h,h2]
theorem zqL (n c:Nat):stepsN 8 (n ^^^ c)=(n/256) ^^^ stepsN 8 ((n%256) ^^^ c):=by
 conv=>lhs;rw [← zGM n]
 rw [Nat.xor_assoc,zGE,zJG]
def rcrcN (n:Nat) (bs:List Int):Nat:=bs.foldl (fun n c=>stepsN 8 (n ^^^ c.toNat)) n
theorem zRI (n:Nat) (bs:List Int) (c:Int):rcrcN n (bs++[c])=stepsN 8 (rcrcN n bs ^^^ c.toNat):=by simp [rcrcN]
theorem zKG (n:Nat) (bs:List Int):rcrcN n bs=crcN n bs:=by
 induction bs generalizing n with
 | nil=>rfl
 | cons c bs ih =>
  show rcrcN (stepsN 8 (n ^^^ c.toNat)) bs=crcN ((n/256) ^^^ stepsN 8 ((n%256) ^^^ c.toNat)) bs
  rw [zqL]
  exact ih _
theorem zjJ (n:Nat) (w:World) (h:n<4294967296):Calls Tryz.prog 209 #[.int .u32 n] w fun e w'=>e=.returned (.int .u32 (stepN n:Nat))∧w=w':=by
 have h0:(0:Int)≤n:=by omega
 have h1:(n:Int)≤4294967295:=by omega
 rcases Nat.mod_two_eq_zero_or_one n with hm | hm
 ·have hb:((n:Int)%2==1)=false:=beq_eq_false_iff_ne.2 (by omega)
  have E:Hid ((n:Int)/2=((stepN n:Nat):Int)):=LH (by unfold stepN;rw [hm];simp)
  go_enter Tryz.func209,Tryz.ntmps209
  go_wp2
  go_ret
  rw [← E.out]
  exact ⟨rfl,rfl⟩
 ·have hb:((n:Int)%2==1)=true:=beq_iff_eq.2 (by omega)
  have E:Hid (bits .xor .u32 ((n:Int)/2) 2197175160=((stepN n:Nat):Int)):=LH (by
   have:=u32_xor_nat (n/2) 2197175160 (by omega) (by decide)
   rw [show ((n/2:Nat):Int)=(n:Int)/2 from by omega] at this
   unfold stepN;rw [hm]
   exact this)
  go_enter Tryz.func209,Tryz.ntmps209
  go_wp2
  go_ret
  rw [← E.out]
  exact ⟨rfl,rfl⟩
theorem zLG (n:Nat) (hn:n<4294967296) (bs:List Int) (hbig:bs.length≤1000000000) (hb:∀ c∈bs,0≤c∧c≤255) (A:Option Addr) (c:Nat) (w:World) (h:SliceR 1 (.slice A bs.length c) bs.length (u8s bs) w) :
    Calls Tryz.prog 145 #[.int .u32 n,.slice A bs.length c] w fun e w'=>e=.returned (.int .u32 (moreN n bs:Nat))∧w=w':=by
 have HB:=LH hb
 have H:=LH h
 clear hb h
 have h0:(0:Int)≤n:=by omega
 have h1:(n:Int)≤4294967295:=by omega
 have hnx:bits .xor .u32 (n:Int) 4294967295=((4294967295 ^^^ n:Nat):Int):=by
  rw [Nat.xor_comm];exact u32_xor_nat n 4294967295 hn (by decide)
 have hlm:=zTD hn
 have E0:Hid (moreN n bs=rcrcN (4294967295 ^^^ n) bs ^^^ 4294967295):=LH (by unfold moreN;rw [zKG,Nat.xor_comm])
 generalize 4294967295 ^^^ n=n0 at *
 go_enter Tryz.func145,Tryz.ntmps145
 go_wp2
 clear hnx
 go_loopw [0,5,6] (fun vn v v6 wr=>wr=w∧∃ k:Nat,k≤bs.length∧v=.int .i64 k∧vn=.int .u32 (rcrcN n0 (bs.take k):Nat)) (fun _ v _ _=>bs.length-(intOf v).toNat)
 case atStart=>exact ⟨rfl,0,by omega,rfl,by simp [rcrcN]⟩
 case round =>
  obtain ⟨rfl,k,hk,rfl,rfl⟩:=hrel
  have hlt2:rcrcN n0 (bs.take k)<4294967296:=by rw [zKG];exact zXE (fun x hx=>HB.out x (List.mem_of_mem_take hx)) hlm
  by_cases hlt:k<bs.length
  ·have hlt':(k:Int)<bs.length:=by omega
   have hbl:bs.length≤1000000000:=hbig
   have hw:IntKind.i64.wrap ((k:Int)+1)=(k:Int)+1:=IntWalk.i64_in _ (by omega)
   obtain ⟨ad,rfl,q1⟩:=SliceR.int_at (k:=.u8) H.out k hlt
   have hc:=HB.out _ (List.getElem_mem hlt)
   have hc0:=hc.1
   have hc1:=hc.2
   have Hsn:Hid (rcrcN n0 (bs.take (k+1))=stepsN 8 (rcrcN n0 (bs.take k) ^^^ bs[k].toNat)):=LH (by rw [List.take_succ_eq_append_getElem hlt,zRI])
   generalize rcrcN n0 (bs.take k)=m at *
   have hx32:bits .xor .u32 (m:Int) bs[k]=((m ^^^ bs[k].toNat:Nat):Int):=by
    have:=u32_xor_nat m bs[k].toNat hlt2 (by omega)
    rwa [show ((bs[k].toNat:Nat):Int)=bs[k] from by omega] at this
   have hlt3:m ^^^ bs[k].toNat<4294967296:=Nat.xor_lt_two_pow (n:=32) hlt2 (by omega)
   generalize m ^^^ bs[k].toNat=ix at *
   go_wp2_with fail
   go_loopw [0,6] (fun vn v wr2=>wr2=wr∧∃ i:Nat,i≤8∧v=.int .i64 i∧vn=.int .u32 (stepsN i ix:Nat)) (fun _ v _=>8-(intOf v).toNat)
   case atStart=>exact ⟨rfl,0,by omega,rfl,rfl⟩
   case round =>
    obtain ⟨rfl,i,hi,rfl,rfl⟩:=hrel
    have hs2:=zfB hlt3 i
    by_cases hilt:i<8
    ·have hilt':(i:Int)<8:=by omega
     have hwi:IntKind.i64.wrap ((i:Int)+1)=(i:Int)+1:=IntWalk.i64_in _ (by omega)
     go_wp2_with fail
     refine (zjJ _ _ hs2).mono ?_
     rintro e w' ⟨rfl,rfl⟩
     go_wp2
     go_roundw
     case rel=>exact ⟨trivial,i+1,by omega,by go_num,rfl⟩
     case measure=>simp [intOf];omega
    ·obtain rfl:i=8:=by omega
     go_wp2
     go_roundw
     case rel=>exact ⟨trivial,k+1,by omega,by go_num,by rw [Hsn.out]⟩
     case measure=>simp [intOf];omega
  ·obtain rfl:k=bs.length:=by omega
   have hlt':¬ ((bs.length:Int)<bs.length):=by omega
   rw [List.take_length] at hlt2 ⊢
   have hnx:bits .xor .u32 ((rcrcN n0 bs:Nat):Int) 4294967295=((rcrcN n0 bs ^^^ 4294967295:Nat):Int):=u32_xor_nat _ 4294967295 hlt2 (by decide)
   go_wp2
   go_ret
   exact ⟨by rw [E0.out];rfl,rfl⟩
theorem zSI (bs:List Int) (hbig:bs.length≤1000000000) (hb:∀ c∈bs,0≤c∧c≤255) (A:Option Addr) (c:Nat) (w:World) (h:SliceR 1 (.slice A bs.length c) bs.length (u8s bs) w) :
    Calls Tryz.prog 73 #[.slice A bs.length c] w fun e w'=>e=.returned (.int .u32 (moreN 0 bs:Nat))∧w=w':=by
 have HM:=LH (zLG 0 (by decide) bs hbig hb A c w h)
 clear h hb
 go_enter Tryz.func73,Tryz.ntmps73
 go_wp2_with fail
 refine HM.out.mono ?_
 rintro e w1 ⟨rfl,rfl⟩
 go_wp2
 go_ret
 exact ⟨rfl,rfl⟩
theorem zED (session sum:Int) (l:List Int) (A:Option Addr) (c:Nat) (w:World) (h:SliceR 1 (.slice A l.length c) l.length (ints l) w) (hf:fitsB l=true) :
    Calls Tryz.prog 83 #[.agg #[.int .u64 session,.slice A l.length c,.int .u32 sum]] w fun e w'=>e=.returned (.bool true)∧Grow w w':=by
 have hga:=(Keep.refl NoB w).alloc (.cells #[.int .u64 session,.slice A l.length c,.int .u32 sum] 40)
 have HG:=LH hga
 have HR:=LH (zHE A c l _ (h.grow hga) hf)
 clear h hf hga
 go_enter Tryz.func83,Tryz.ntmps83
 go_wp2_with fail
 refine HR.out.mono ?_
 rintro e w1 ⟨rfl,rfl⟩
 go_wp2
 go_ret
 exact ⟨rfl,HG.out⟩
theorem zNF (session sum:Int) (l:List Int) (A:Option Addr) (c:Nat) (w:World) (h:SliceR 1 (.slice A l.length c) l.length (ints l) w) (hf:fitsB l=true) :
    Calls Tryz.prog 46 #[.agg #[.int .u64 session,.slice A l.length c,.int .u32 sum]] w fun e w'=>e=.returned (.int .i64 l.sum)∧Grow w w':=by
 have hga:=(Keep.refl NoB w).alloc (.cells #[.int .u64 session,.slice A l.length c,.int .u32 sum] 40)
 have HG:=LH hga
 have HH:=LH (h.grow hga)
 have HC:=LH (heap_alloc_new w (.cells #[.int .u64 session,.slice A l.length c,.int .u32 sum] 40))
 have HF:=LH hf
 obtain ⟨m0,m1,m2,mf⟩:=zI HC.out
 clear h hf hga
 go_enter Tryz.func46,Tryz.ntmps46
 go_wp2_with fail
 refine (zED session sum l A c _ HH.out HF.out).mono ?_
 rintro e w1 ⟨rfl,hg⟩
 replace HG:=LH (HG.out.grow hg)
 replace HH:=LH (HH.out.grow hg)
 replace HC:=LH (Grow.heap hg HC.out)
 clear hg m0 m1 m2 mf
 go_wp2_with fail
 go_loopw [3,4] (fun vn v wr=>wr=w1∧∃ (k:Nat) (s:Int),k≤l.length∧v=.int .i64 k∧vn=.int .i64 s∧Hid (s=(l.take k).sum)∧0≤s∧s≤4096) (fun _ v _=>l.length-(intOf v).toNat)
 case atStart=>exact ⟨rfl,0,0,by omega,rfl,rfl,LH (by simp),by omega,by omega⟩
 case round =>
  obtain ⟨rfl,k,s,hk,rfl,rfl,HS,hs0,hs1⟩:=hrel
  obtain ⟨m0,m1,m2,mf⟩:=zI HC.out
  obtain ⟨hl1,hl2,hnn,hsum⟩:=zM HF.out
  by_cases hlt:k<l.length
  ·obtain ⟨ad2,rfl,q1⟩:=SliceR.int_at (k:=.i64) HH.out k hlt
   have hw:IntKind.i64.wrap ((k:Int)+1)=(k:Int)+1:=IntWalk.i64_in _ (by omega)
   have hlt':(k:Int)<l.length:=by omega
   have hsu:=zw hlt
   have hle:=zrB hnn k hlt
   have hn0:0≤l[k]:=hnn _ (List.getElem_mem hlt)
   have hs9:=HS.out
   have hw3:IntKind.i64.wrap (s+l[k])=s+l[k]:=IntWalk.i64_in _ (by omega)
   have HR:Hid (s+l[k]=(l.take (k+1)).sum∧0≤s+l[k]∧s+l[k]≤4096):=LH ⟨by omega,by omega,by omega⟩
   clear hsu hle hs9 hnn
   go_wp2
   go_roundw
   case rel=>exact ⟨trivial,k+1,s+l[k],by omega,by go_num,rfl,LH HR.out.1,HR.out.2.1,HR.out.2.2⟩
   case measure=>simp [intOf];omega
  ·obtain rfl:k=l.length:=by omega
   have hlt':¬ ((l.length:Int)<l.length):=by omega
   have HE:Hid (s=l.sum):=LH (by rw [HS.out,List.take_length])
   clear hnn
   go_wp2
   go_ret
   exact ⟨by rw [HE.out];rfl,HG.out⟩
theorem zLC (session sum:Int) (l:List Int) (A:Option Addr) (c:Nat) (w:World) (h:SliceR 1 (.slice A l.length c) l.length (ints l) w) (hf:fitsB l=true) :
    Calls Tryz.prog 30 #[.agg #[.int .u64 session,.slice A l.length c,.int .u32 sum]] w fun e w'=>e=.returned (.int .i64 (chunksN l:Nat))∧Grow w w':=by
 have hga:=(Keep.refl NoB w).alloc (.cells #[.int .u64 session,.slice A l.length c,.int .u32 sum] 40)
 have HG:=LH hga
 have HR:=LH (zNF session sum l A c _ (h.grow hga) hf)
 obtain ⟨hl1,hl2,hnn,hsum⟩:=zM hf
 have hs0:0≤l.sum:=by
  have:=zl hnn 0
  simpa using this
 have hw:IntKind.i64.wrap (l.sum+7)=l.sum+7:=IntWalk.i64_in _ (by omega)
 have HE:Hid ((l.sum+7)/8=(chunksN l:Nat)):=LH (by unfold chunksN;omega)
 have hp:0≤l.sum+7:=by omega
 clear h hf hga hnn
 generalize l.sum=S at *
 go_enter Tryz.func30,Tryz.ntmps30
 go_wp2_with fail
 refine HR.out.mono ?_
 rintro e w1 ⟨rfl,hg⟩
 replace HG:=LH (HG.out.grow hg)
 clear hg
 go_wp2
 go_ret
 exact ⟨by rw [HE.out];rfl,HG.out⟩
end Go.Proofs.YtfkcpaahdlkcdaaGreat
